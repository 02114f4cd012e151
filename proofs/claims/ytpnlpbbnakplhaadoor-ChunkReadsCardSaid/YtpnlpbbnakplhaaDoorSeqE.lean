/- chunk.Wrap of the given program: its walk. -/
import Derived.Test.YtpnlpbbnakplhaaDoorSeqD
namespace Go.Proofs.YtpnlpbbnakplhaaDoor
open Go.RowKit Go.Shelf Go.Proofs.YtpnlpbbnakplhaaDoorW.PrintWords Go.Proofs.YtpnlpbbnakplhaaDoorW.PrintLast Go.Proofs.YtpnlpbbnakplhaaDoorW.PrintMore
attribute [local go_sem] Oper.semAt_some
set_option linter.unusedVariables false
/-- The caller's side: none of it is the iterator's. -/
structure Side (w : World) (fx : List (Nat × Obj)) (O : Blocks) (W : World) : Prop where
  bel : Below w.heap.size w W
  lo : ∀ k, O k → w.heap.size ≤ k
  fix : ∀ p ∈ fx, W.heap[p.1]? = some p.2 ∧ ¬ O p.1
namespace Side
variable {w W W' : World} {fx fx' : List (Nat × Obj)} {O O' : Blocks}
theorem fixAt (h : Side w fx O W) {g : Nat} {o : Obj} (hm : (g, o) ∈ fx) : W.heap[g]? = some o ∧ ¬ O g := h.fix (g, o) hm
theorem step (h : Side w fx O W) (hk : Kept (fun k => ¬ O k) W W') (ho : ∀ k, k < W.heap.size → O' k → O k) : Side w fx O' W' :=
  ⟨h.bel.trans ((hk.mono (fun k hk1 (hk2 : k < w.heap.size) hO => by have := h.lo k hO; omega)).below h.bel.size),
   fun k hO => by
    rcases Nat.lt_or_ge k W.heap.size with hlt | hge
    · exact h.lo k (ho k hlt hO)
    · exact Nat.le_trans h.bel.size hge,
   fun p hp => ⟨hk.block (h.fix p hp).1 (h.fix p hp).2, fun hO => (h.fix p hp).2 (ho _ (Array.getElem?_eq_some_iff.1 (h.fix p hp).1).1 hO)⟩⟩
theorem sub (h : Side w fx O W) (hs : ∀ p ∈ fx', p ∈ fx) : Side w fx' O W := ⟨h.bel, h.lo, fun p hp => h.fix p (hs p hp)⟩
theorem over (h : Side w fx O W) {g : Nat} {o' : Obj} (hg : w.heap.size ≤ g) (hO : ¬ O g) (hne : ∀ p ∈ fx, p.1 ≠ g) (hk : Kept (fun k => k ≠ g) W W') (ho : W'.heap[g]? = some o') : Side w ((g, o') :: fx) O W' :=
  ⟨h.bel.trans ((hk.mono (fun k _ (hk : k < w.heap.size) => by show k ≠ g; omega)).below h.bel.size), h.lo, fun p hp => by
    rcases List.mem_cons.1 hp with rfl | hp
    · exact ⟨ho, hO⟩
    · exact ⟨hk.block (h.fix p hp).1 (hne p hp), (h.fix p hp).2⟩⟩
theorem setBox (h : Side w fx O W) {g t : Nat} {u u' : Value} (hg : W.heap[g]? = some (.cells #[u] t (0, 0))) (hw : w.heap.size ≤ g) (hO : ¬ O g) (hne : ∀ p ∈ fx, p.1 ≠ g) : Side w ((g, .cells #[u'] t (0, 0)) :: fx) O (W.setCell ⟨g, 0, none⟩ u') :=
  h.over hw hO hne ((Kept.refl _ W).setCell _ _ (.inl (fun hh => hh rfl))) (by rw [heap_setCell_same _ _ _ _ _ _ hg]; rfl)
theorem setObj (h : Side w fx O W) {g : Nat} {o : Obj} (o' : Obj) (hg : W.heap[g]? = some o) (hw : w.heap.size ≤ g) (hO : ¬ O g) (hne : ∀ p ∈ fx, p.1 ≠ g) : Side w ((g, o') :: fx) O (W.putObj g o') :=
  h.over hw hO hne ((Kept.refl _ W).putObj _ _ (.inl (fun hh => hh rfl))) (World.putObj_heap_same (Array.getElem?_eq_some_iff.1 hg).1)
end Side
/-- A row that none of the iterator's blocks holds. -/
theorem row_aside {W W' : World} {base : Nat} {O O' : Blocks} {v : Value} {l : List Int} (hr : Row W base (fun k => ¬ O k) v l) (hk : Kept (fun k => ¬ O k) W W') (ho : ∀ k, k < W.heap.size → O' k → O k) : Row W' base (fun k => ¬ O' k) v l :=
  Kd.R_mono (hk.row (row_bound hr) (fun k hk => hk.1)) (fun k hk hO => hk.1 (ho k hk.2.2 hO))
def WrapJ (w : World) (Bo l D : Nat) (r : Loop) (O : Blocks) (pre : List (List Int)) (W : World) : Prop :=
  Side w [(l, .loop r), (D, .deferred (some []))] O W ∧ ∃ v, W.heap[Bo]? = some (.cells #[v] 22 (0, 0)) ∧ ¬ O Bo ∧ Row W w.heap.size (fun k => ¬ O k) v pre.flatten
theorem wrapJ_closed (w : World) (Bo l D : Nat) (r : Loop) (pre : List (List Int)) : Closed (fun O W => WrapJ w Bo l D r O pre W) := by
  rintro O O' W W' ⟨hs, v, h1, h2, h3⟩ hk ho
  exact ⟨hs.step hk ho, v, hk.block h1 h2, fun hO => h2 (ho _ (Array.getElem?_eq_some_iff.1 h1).1 hO), row_aside h3 hk ho⟩
theorem prefix_length (b : List Int) (hb : b.length ≤ 1048576) (pre : List (List Int)) (x : List Int) (h : (pre ++ [x]) <+: ChunkPure.pieces Z b) : pre.flatten.length + x.length ≤ 2097152 := by
  obtain ⟨t, ht⟩ := h
  have h1 := congrArg (fun l => (List.flatten l).length) ht
  simp only [List.flatten_append, List.length_append, List.flatten_cons, List.flatten_nil, List.length_nil] at h1
  rw [ChunkPure.pieces_flatten, ChunkPure.wrap_length] at h1
  omega
/-- The side's row grows: an append, and the store into its box. -/
theorem side_app {w W W1 : World} {O : Blocks} {fx : List (Nat × Obj)} {Bo : Nat} {v v1 : Value} {l f' : List Int} (hs : Side w fx O W) (hO : ∀ k, O k → k < W.heap.size) (hv : W.heap[Bo]? = some (.cells #[v] 22 (0, 0))) (hvO : ¬ O Bo) (hBo : w.heap.size ≤ Bo) (hrow : Row W w.heap.size (fun k => ¬ O k) v l)
    (hnr : ∀ p ∈ fx, NotRow p.2) (hne : ∀ p ∈ fx, p.1 ≠ Bo) (hr : Row W1 w.heap.size (fun k => ¬ O k ∨ W.heap.size ≤ k) v1 f') (hg : W.grownBy W1 v.ownBlock) :
    W1.heap[Bo]? = some (.cells #[v] 22 (0, 0)) ∧ Side w fx O (W1.setCell ⟨Bo, 0, none⟩ v1) ∧ (W1.setCell ⟨Bo, 0, none⟩ v1).heap[Bo]? = some (.cells #[v1] 22 (0, 0)) ∧ Row (W1.setCell ⟨Bo, 0, none⟩ v1) w.heap.size (fun k => ¬ O k) v1 f' ∧ Kept (fun k => O k ∨ k < w.heap.size) W (W1.setCell ⟨Bo, 0, none⟩ v1) := by
  have hown : ∀ k, v.ownBlock = some k → ¬ O k ∧ w.heap.size ≤ k ∧ ∃ cells, W.heap[k]? = some (.cells cells 5 (0, 0)) := fun k hk => ⟨hrow.1 k hk, Kd.R_base hrow k hk, Kd.R_typed hrow k hk⟩
  have hsp : ∀ g o, W.heap[g]? = some o → NotRow o → W1.heap[g]? = some o := fun g o ho hno => (hg.block g (Array.getElem?_eq_some_iff.1 ho).1 (fun e => by
    obtain ⟨_, _, cells, hc⟩ := hown g e.symm
    rw [ho] at hc
    injection hc with hc
    exact hno _ hc)).trans ho
  have hbo := hsp Bo _ hv (notRow_box (by decide))
  refine ⟨hbo, ⟨(hs.bel.grown hg hs.bel.size (fun k hk => (hown k hk).2.1)).setCell (p := ⟨Bo, 0, none⟩) hBo v1, hs.lo, fun p hp => ⟨?_, (hs.fix p hp).2⟩⟩, by rw [heap_setCell_same _ _ _ _ _ _ hbo]; rfl, ?_, ?_⟩
  · rw [Below.heap_setCell _ _ _ _ (hne p hp)]
    exact hsp _ _ (hs.fix p hp).1 (hnr p hp)
  · have hr2 : Row W1 w.heap.size (fun k => ¬ O k ∧ k ≠ Bo) v1 f' := Kd.R_mono (row_apart hr hbo (notRow_box (by decide))) (fun k hk => ⟨fun hO' => hk.1.elim (fun hn => hn hO') (fun hge => by have := hO k hO'; omega), hk.2⟩)
    exact Kd.R_drop (Kd.R_far hr2 (p := ⟨Bo, 0, none⟩) (fun k hk => hk.2) v1)
  · exact ((Kept.refl _ W).grown hg (fun k hk => .inl (fun hn => hn.elim (hown k hk).1 (fun hlt => by have := (hown k hk).2.1; omega)))).setCell ⟨Bo, 0, none⟩ v1 (.inl (fun hn => hn.elim hvO (fun hlt => by have : Bo < w.heap.size := hlt; omega)))
def wrapOf (b : List Int) : List Int := if b.length ≤ 1048576 then ChunkPure.wrap Z b else []
set_option maxRecDepth 100000 in
set_option maxHeartbeats 4000000 in
theorem chunk_Wrap_in (n : Nat) (hn : Aside0 (2 ≤ n)) (A : Option Addr) (c : Nat) (b : List Int) (w : World) (hG : Glob w) (hR : Reads w A b) (hc : b.length ≤ c) (hlen : b.length ≤ 1048576) :
    CallsIn Fence.wide n Tryd.prog 15 #[.slice A b.length c] w fun e w' => ∃ v, e = .returned v ∧ Row w' w.heap.size (fun _ => True) v (ChunkPure.wrap Z b) ∧ Below w.heap.size w w' := by
  have hle : decide ((1048576 : Int) < (b.length : Int)) = false := decide_eq_false (by omega)
  refine callsIn_of_wp_marks Tryd.func15 rfl trivial (wpIn_calm ?_) rfl
  simp only [Tryd.ntmps15, List.size_toArray, List.length_cons, List.length_nil, Nat.reduceAdd, Nat.reduceSub, Array.replicate_succ, Array.replicate_zero, List.push_toArray, List.append_toArray, List.nil_append, List.cons_append]
  gi_wp2
  refine ⟨trivial, fun h => (by cases h), ?_⟩
  refine (callsIn_wide.2 (pieces_calls A b.length c _)).mono ?_
  rintro e w1 ⟨rfl, rfl⟩
  gi_wp2
  rename_i K3 hK3
  refine Go.Rounds.range_rec (gf := 40) (lb := #[.pointer (some ⟨w.heap.size + 1, 0, none⟩)]) rfl (by have := hn.out; omega) rfl trivial (enters_of Tryd.func40 (by kernel_rfl) rfl) ?_
  intro r hrf hrs hrp hrt hrps hra hrb
  have hz1 : (w.alloc (.cells #[.slice none 0 0] 22)).heap.size = w.heap.size + 1 := by show (w.heap.push _).size = _; simp
  have hz2 : ((w.alloc (.cells #[.slice none 0 0] 22)).alloc (.cells #[.slice A b.length c] 22)).heap.size = w.heap.size + 2 := by show (Array.push _ _).size = _; simp [hz1]
  have hz3 : (((w.alloc (.cells #[.slice none 0 0] 22)).alloc (.cells #[.slice A b.length c] 22)).alloc (.deferred (some []))).heap.size = w.heap.size + 3 := by show (Array.push _ _).size = _; simp [hz2]
  have hz4 : ((((w.alloc (.cells #[.slice none 0 0] 22)).alloc (.cells #[.slice A b.length c] 22)).alloc (.deferred (some []))).alloc (.loop r)).heap.size = w.heap.size + 4 := by show (Array.push _ _).size = _; simp [hz3]
  have hg0 : ((((w.alloc (.cells #[.slice none 0 0] 22)).alloc (.cells #[.slice A b.length c] 22)).alloc (.deferred (some []))).alloc (.loop r)).heap[w.heap.size]? = some (.cells #[.slice none 0 0] 22 (0, 0)) := by
    rw [Below.heap_alloc _ _ _ (by omega), Below.heap_alloc _ _ _ (by omega), Below.heap_alloc _ _ _ (by omega)]; exact World.alloc_heap_new w _
  have hg1 : ((((w.alloc (.cells #[.slice none 0 0] 22)).alloc (.cells #[.slice A b.length c] 22)).alloc (.deferred (some []))).alloc (.loop r)).heap[w.heap.size + 1]? = some (.cells #[.slice A b.length c] 22 (0, 0)) := by
    rw [Below.heap_alloc _ _ _ (by omega), Below.heap_alloc _ _ _ (by omega), ← hz1]; exact World.alloc_heap_new _ _
  have hg2 : ((((w.alloc (.cells #[.slice none 0 0] 22)).alloc (.cells #[.slice A b.length c] 22)).alloc (.deferred (some []))).alloc (.loop r)).heap[w.heap.size + 2]? = some (.deferred (some [])) := by
    rw [Below.heap_alloc _ _ _ (by omega), ← hz2]; exact World.alloc_heap_new _ _
  have hg3 : ((((w.alloc (.cells #[.slice none 0 0] 22)).alloc (.cells #[.slice A b.length c] 22)).alloc (.deferred (some []))).alloc (.loop r)).heap[w.heap.size + 3]? = some (.loop r) := by
    rw [← hz3]; exact World.alloc_heap_new _ _
  have hb4 := ((((Below.refl w.heap.size w).alloc (Nat.le_refl _) (.cells #[.slice none 0 0] 22)).alloc (by omega) (.cells #[.slice A b.length c] 22)).alloc (by omega) (.deferred (some []))).alloc (by omega) (.loop r)
  rw [hz2]
  generalize (((w.alloc (.cells #[.slice none 0 0] 22)).alloc (.cells #[.slice A b.length c] 22)).alloc (.deferred (some []))).alloc (.loop r) = w4 at *
  clear hz1 hz2 hz3
  have harr : ∀ (x y : Value), (#[x] ++ #[y] : Array Value) = #[x, y] := fun _ _ => rfl
  rw [harr, show w.heap.size + 2 + 1 = w.heap.size + 3 from rfl]
  clear harr
  have hY : Yields (w.heap.size + 3) w (ChunkPure.pieces Z b) (WrapJ w w.heap.size (w.heap.size + 3) (w.heap.size + 2) r) (fun _ _ _ => False) := by
    refine ⟨wrapJ_closed w _ _ _ r, fun _ _ _ _ _ h _ _ => h, ?_⟩
    clear hg0 hg1 hg2 hg3 hb4 hz4 hK3 K3 w4
    intro m O O2 pre x ad cx W hJ hB hO hO2 hn2 hOx hr hx hcx hp
    obtain ⟨hs, v, hv, hvO, hrow⟩ := hJ
    have hl := hs.fixAt (g := w.heap.size + 3) (o := .loop r) (by simp)
    refine Go.Rounds.yield_of (r := r) hrf hl.1 hrs (by rw [hrps]; rfl) ?_
    generalize hbz : ({ r with state := .busy } : Loop) = rb
    rw [hra, hrt, hrps, hrb]
    clear hra hrb hrt hrps
    simp only [List.zip_toArray, List.zip_cons_cons, List.zip_nil_right, List.foldl_toArray', List.foldl_cons, List.foldl_nil, List.setIfInBounds_toArray, List.set_cons_succ, List.set_cons_zero, List.size_toArray, List.length_cons, List.length_nil]
    gi_wp2
    refine ⟨hl.1, ?_⟩
    have hsb := (hs.sub (fx' := [(w.heap.size + 2, .deferred (some []))]) (fun p hp => by simp only [List.mem_cons, List.not_mem_nil, or_false] at hp ⊢; simp [hp])).setObj (.loop rb) hl.1 (by omega) hl.2 (fun p hp => by simp only [List.mem_cons, List.not_mem_nil, or_false] at hp; subst hp; dsimp only; omega)
    have hkb := (Kept.refl (fun k => O k ∨ k < w.heap.size) W).putObj (w.heap.size + 3) (.loop rb) (.inl (fun h => h.elim hl.2 (fun h => by omega)))
    have hkn := (Kept.refl (fun k => k ≠ w.heap.size + 3) W).putObj (w.heap.size + 3) (.loop rb) (.inl (fun h => h rfl))
    have hvb := hkn.block hv (by omega)
    have hrb' : Row (W.putObj (w.heap.size + 3) (.loop rb)) w.heap.size (fun k => ¬ O k) v pre.flatten := Kd.R_drop (hkn.row (row_apart hrow hl.1 (notRow_loop r)) (fun k hk => hk.2))
    have hxb := hkb.reads hr (.inl hOx)
    have hOb : ∀ k, O k → k < (W.putObj (w.heap.size + 3) (.loop rb)).heap.size := fun k hk => Nat.lt_of_lt_of_le (hO k hk).2 hkb.size
    have hpl := prefix_length b hlen pre x hp
    have hbs := hkb.size
    generalize W.putObj (w.heap.size + 3) (.loop rb) = Wb at *
    have hcb := cell_of_box hvb
    generalize hq : pre.flatten = q at *
    have HQ := Aside0.mk hq
    clear hq
    have HS := Aside0.mk hsb
    have HV := Aside0.mk hvb
    have HR := Aside0.mk hrb'
    have HX := Aside0.mk hxb
    have HPL := Aside0.mk hpl
    have HK := Aside0.mk hkb
    clear hsb hvb hrb' hxb hpl hkb hkn hs hv hrow hl hr hp hR hG
    gi_wp2_with (gi_at_builtin; refine wpListIn_app rfl (.tmp 11) (.tmp 12) rfl rfl v q x ad cx rfl rfl HR.out HX.out HS.out.bel.size (by have := HPL.out; omega) ?_; intro A9 c9 w9 hr9 hg9; have H9 := Aside0.mk (side_app HS.out hOb HV.out hvO (Nat.le_refl _) HR.out (fun p hp => by simp only [List.mem_cons, List.not_mem_nil, or_false] at hp; rcases hp with rfl | rfl; exact notRow_loop _; exact notRow_deferred _) (fun p hp => by simp only [List.mem_cons, List.not_mem_nil, or_false] at hp; rcases hp with rfl | rfl <;> (dsimp only; omega)) hr9 hg9); have hcb9 := cell_of_box H9.out.1; have hfb9 := frozen_of_box H9.out.1; have HR9 := Aside0.mk hr9; clear hr9 hg9)
    obtain ⟨_, hs9, hb9, hr9, hk9⟩ := H9.out
    clear H9 HR9 hcb9 hfb9
    generalize w9.setCell ⟨w.heap.size, 0, none⟩ (.slice A9 (q.length + x.length) c9) = wz at *
    have hl9 := hs9.fixAt (g := w.heap.size + 3) (o := .loop rb) (by simp)
    have hr : ({ r with state := .ready, pending := none } : Loop) = r := by
      cases r
      simp only at hrs hrp
      subst hrs hrp
      rfl
    refine ⟨by rw [hbz]; exact hl9.1, .inl ⟨rfl, ⟨?_, _, (World.putObj_heap_other (by omega)).trans hb9, hvO, ?_⟩, ?_⟩⟩
    · rw [hr]
      exact (hs9.sub (fx' := [(w.heap.size + 2, .deferred (some []))]) (fun p hp => by simp only [List.mem_cons, List.not_mem_nil, or_false] at hp ⊢; simp [hp])).setObj (.loop r) hl9.1 (by omega) hl9.2 (fun p hp => by simp only [List.mem_cons, List.not_mem_nil, or_false] at hp; subst hp; dsimp only; omega)
    · rw [List.flatten_append, HQ.out]
      simp only [List.flatten_cons, List.flatten_nil, List.append_nil]
      exact Kd.R_drop (((Kept.refl (fun k => k ≠ w.heap.size + 3) wz).putObj (w.heap.size + 3) _ (.inl (fun h => h rfl))).row (row_apart hr9 hl9.1 (notRow_loop rb)) (fun k hk => hk.2))
    · exact (HK.out.trans hk9 (fun k _ h => h)).putObj (w.heap.size + 3) _ (.inl (fun h => h.elim hl9.2 (fun h => by omega)))
  have hp := pieces_in (w.heap.size + 3) (w.heap.size + 1) (n - 1) ⟨by have := hn.out; omega⟩ A c b _ _ w w4 hY hG hR hc hlen hb4 hg1 (by omega)
    ⟨⟨hb4, fun k hk => by omega, fun p hp => by
      simp only [List.mem_cons, List.not_mem_nil, or_false] at hp
      rcases hp with rfl | rfl
      · exact ⟨hg3, by show ¬ w.heap.size + 3 = w.heap.size + 1; omega⟩
      · exact ⟨hg2, by show ¬ w.heap.size + 2 = w.heap.size + 1; omega⟩⟩, _, hg0, by omega, Kd.R_nil _ _ _ _ _⟩
  refine hp.mono ?_
  rintro e W ⟨hv, ⟨O, ⟨hs, v, hv1, hv2, hrow⟩⟩ | ⟨_, _, h⟩⟩
  · refine ⟨hv, .inl ⟨(hs.fixAt (g := w.heap.size + 3) (o := .loop r) (by simp)).1, ?_⟩⟩
    show K3 _ _
    apply hK3
    clear hK3 hra hrb hrt hrps hp hY
    have hl := hs.fixAt (g := w.heap.size + 3) (o := .loop r) (by simp)
    have hd := hs.fixAt (g := w.heap.size + 2) (o := .deferred (some [])) (by simp)
    obtain ⟨Av, cv, rfl⟩ := Kd.R_slice hrow
    have hb9 := hs.bel.trans (((Kept.refl (fun k => k < w.heap.size) W).putObj (w.heap.size + 3) (.loop { r with state := .exhausted }) (.inl (fun h => by omega))).below hs.bel.size)
    have hv9 : (W.putObj (w.heap.size + 3) (.loop { r with state := .exhausted })).heap[w.heap.size]? = some (.cells #[.slice Av (ChunkPure.pieces Z b).flatten.length cv] 22 (0, 0)) := (World.putObj_heap_other (by omega)).trans hv1
    have hd9 : (W.putObj (w.heap.size + 3) (.loop { r with state := .exhausted })).heap[w.heap.size + 2]? = some (.deferred (some [])) := (World.putObj_heap_other (by omega)).trans hd.1
    have hr9 : Row (W.putObj (w.heap.size + 3) (.loop { r with state := .exhausted })) w.heap.size (fun k => True ∧ k ≠ w.heap.size + 2) (.slice Av (ChunkPure.pieces Z b).flatten.length cv) (ChunkPure.pieces Z b).flatten := by
      refine row_apart (Kd.R_mono (((Kept.refl (fun k => k ≠ w.heap.size + 3) W).putObj (w.heap.size + 3) (.loop { r with state := .exhausted }) (.inl (fun h => h rfl))).row (row_apart hrow hl.1 (notRow_loop r)) (fun k hk => hk.2)) (fun _ _ => trivial)) hd9 (notRow_deferred _)
    generalize W.putObj (w.heap.size + 3) (.loop { r with state := .exhausted }) = wx at *
    rw [ChunkPure.pieces_flatten] at hr9 hv9
    have hcx := cell_of_box hv9
    have HR9 := Aside0.mk hr9
    have HB9 := Aside0.mk hb9
    have HD9 := Aside0.mk hd9
    clear hr9 hb9 hd9 hv9 hs hv1 hv2 hrow hl hd
    gi_wp2
    refine ⟨by simp, .inl ⟨_, _, rfl, run_takeDeferred HD9.out, ⟨_, results_tmp rfl _ _ _, ⟨_, rfl, ?_, ?_⟩⟩⟩⟩
    · exact Kd.R_mono (((Kept.refl (fun k => k ≠ w.heap.size + 2) wx).putObj (w.heap.size + 2) _ (.inl (fun h => h rfl))).row HR9.out (fun k hk => hk.2)) (fun _ _ => trivial)
    · exact HB9.out.trans (((Kept.refl (fun k => k < w.heap.size) wx).putObj (w.heap.size + 2) _ (.inl (fun h => by omega))).below HB9.out.size)
  · exact h.elim
theorem chunk_Wrap_long (A : Option Addr) (L c : Nat) (hL : 1048576 < L) (w : World) : Calls Tryd.prog 15 #[.slice A L c] w fun e w' => e = .returned (.slice none 0 0) ∧ w' = w := by
  have hle : decide ((1048576 : Int) < (L : Int)) = true := decide_eq_true (by omega)
  go_enter Tryd.func15, Tryd.ntmps15
  go_wp2
  go_ret
  exact ⟨rfl, rfl⟩
theorem chunk_Wrap_calls (A : Option Addr) (c : Nat) (b : List Int) (w : World) (hG : Glob w) (hR : Reads w A b) (hc : b.length ≤ c) :
    Calls Tryd.prog 15 #[.slice A b.length c] w fun e w' => ∃ v, e = .returned v ∧ Row w' w.heap.size (fun _ => True) v (wrapOf b) ∧ Below w.heap.size w w' := by
  unfold wrapOf
  by_cases h : b.length ≤ 1048576
  · rw [if_pos h]
    exact callsIn_wide.1 (chunk_Wrap_in 5 ⟨by omega⟩ A c b w hG hR hc h)
  · rw [if_neg h]
    refine (chunk_Wrap_long A b.length c (by omega) w).mono ?_
    rintro e w' ⟨rfl, rfl⟩
    exact ⟨_, rfl, Kd.R_nil _ _ _ _ _, Below.refl _ _⟩
end Go.Proofs.YtpnlpbbnakplhaaDoor
