/- The iterator of chunk.pieces: its walk, for whatever the rounds keep. -/
import Derived.Test.YtpnlpbbnakplhaaDoorSeqC
namespace Go.Proofs.YtpnlpbbnakplhaaDoor
open Go.RowKit Go.Shelf Go.Proofs.YtpnlpbbnakplhaaDoorW.PrintWords Go.Proofs.YtpnlpbbnakplhaaDoorW.PrintLast Go.Proofs.YtpnlpbbnakplhaaDoorW.PrintMore
attribute [local go_sem] Oper.semAt_some
set_option linter.unusedVariables false
def Done (J Jx : Blocks → List (List Int) → World → Prop) (ps : List (List Int)) (e : Ending) (W : World) : Prop := (∃ v, e = .returned v) ∧ ((∃ O, J O ps W) ∨ (∃ O pre, Jx O pre W))
/-- No panic. -/
def Calm (Q : Exit → Act → World → Prop) : Exit → Act → World → Prop
  | .panic _, _, _ => False
  | e, a, w => Q e a w
theorem wpIn_calm {F : Fence} {n : Nat} {P : Program} {cd : Code} {Q : Exit → Act → World → Prop} {a : Act} {w : World} (h : cd.wpIn F n P (Calm Q) a w) : cd.wpIn F n P Q a w :=
  wpIn_mono h (fun e a w hq => by cases e <;> first | exact hq | exact hq.elim)
theorem prefix_next (ps : List (List Int)) (k : Nat) (x : List Int) (h : ps[k]? = some x) : (ps.take k ++ [x]) <+: ps := by
  obtain ⟨hk, rfl⟩ := List.getElem?_eq_some_iff.1 h
  rw [← List.take_succ_eq_append_getElem hk]
  exact List.take_prefix _ _
/-- A fresh row of the iterator's, handed on: one call of yield. -/
theorem St.yield_at {l : Nat} {W0 w : World} {ps : List (List Int)} {J Jx : Blocks → List (List Int) → World → Prop} (hY : Yields l W0 ps J Jx) {O : Blocks} {fx : List (Nat × Obj)} {Ba : Nat} {f : List Int} {pre : List (List Int)} {w3 : World}
    (hst : St W0 O fx Ba f w) (hj : J O pre w) (hb : Below w.heap.size w w3) {g c : Nat} {x : List Int} (hg : w.heap.size ≤ g) (hg3 : g < w3.heap.size) (hr : Reads w3 (some ⟨g, 0, none⟩) x) (hx : 0 < x.length) (hc : x.length ≤ c) (hp : (pre ++ [x]) <+: ps)
    (O2 : Blocks) (hO2 : ∀ k, O2 k → O k) (m : Nat) :
    YieldAt Fence.wide m Tryd.prog l #[.slice (some ⟨g, 0, none⟩) x.length c] w3 fun e W' => (e = .returned (.bool true) ∧ ∃ O', (∀ k, O k → O' k) ∧ O' g ∧ J O' (pre ++ [x]) W' ∧ St W0 O' fx Ba f W' ∧ Kept (fun k => O' k ∨ k < W0.heap.size) w3 W' ∧ W'.heap.size ≥ w3.heap.size) ∨ (e = .returned (.bool false) ∧ Jx O2 (pre ++ [x]) W' ∧ Kept O2 w3 W') := by
  have h3 := (hst.below hb).more (O' := fun k => O k ∨ k = g) (fun k hk => .inl hk) (fun k hk => hk.elim .inl (fun e => .inr (by subst e; have := hst.bel.size; omega)))
  have hj3 : J (fun k => O k ∨ k = g) pre w3 := hY.cj pre _ _ _ _ hj (Kept.all hb) (fun k hk ho => ho.elim id (fun e => by omega))
  refine YieldAt.mono (hY.round m _ O2 pre x ⟨g, 0, none⟩ c w3 hj3 h3.bel h3.lo (fun k hk => .inl (hO2 k hk)) (fun hh => by have : g < w.heap.size := (hst.lo _ (hO2 _ hh)).2; omega) (.inr rfl) hr hx hc hp) ?_
  rintro e W' (⟨rfl, hj', hk⟩ | ⟨rfl, hj', hk⟩)
  · exact .inl ⟨rfl, _, fun k hk => .inl hk, .inr rfl, hj', h3.keep hk, hk, hk.size⟩
  · exact .inr ⟨rfl, hj', hk⟩
theorem RoundIn.ofWide {n : Nat} {P : Program} {l l0 f : Nat} {tmps : Array Value} {assign body : Code} {w : World} {R : Ending → World → Prop} (h : RoundIn Fence.wide n P l f tmps assign body w R) : RoundIn (Fence.wide.inRound l0) n P l f tmps assign body w R := h
theorem pieces_part (b : List Int) (k : Nat) (hk : 100 * k < b.length) : (ChunkPure.pieces Z b)[k + 1]? = some (ChunkPure.part Z k ((b.drop (100 * k)).take 100)) := by
  have h := ChunkPure.parts_get Z b.length 0 b k (Nat.le_refl _) (by omega)
  rw [Nat.zero_add] at h
  unfold ChunkPure.pieces
  rw [List.getElem?_cons_succ, List.getElem?_append_left (List.getElem?_eq_some_iff.1 h).1]
  exact h
theorem front_length (b : List Int) (k : Nat) (hb : b.length ≤ 1048576) : (ChunkPure.head Z b.length ++ ((ChunkPure.parts Z b.length 0 b).take k).flatten).length ≤ 2097152 := by
  have h := ChunkPure.parts_length Z b.length 0 b (Nat.le_refl _)
  have h2 : (ChunkPure.parts Z b.length 0 b).flatten.length = ((ChunkPure.parts Z b.length 0 b).take k).flatten.length + ((ChunkPure.parts Z b.length 0 b).drop k).flatten.length := by
    rw [← List.length_append, ← List.flatten_append, List.take_append_drop]
  rw [List.length_append, ChunkPure.head_length]
  omega
/-- What holds when k chunks have come. -/
def Mid (J : Blocks → List (List Int) → World → Prop) (A : Option Addr) (c : Nat) (b : List Int) (l By Bb Ba Bi : Nat) (W0 : World) (r : Loop) (k : Nat) (W : World) : Prop :=
  ∃ O, J O ((ChunkPure.pieces Z b).take (k + 1)) W ∧ St W0 O [(Bi, .cells #[.int .i64 (k : Nat)] 3 (0, 0)), (Bi + 4, .loop r), (Bi + 3, .deferred (some [])), (Bi + 2, .cells #[.int .i64 100] 3 (0, 0)), (Bi + 1, .cells #[.slice A b.length c] 22 (0, 0)), (By, .cells #[.func (.yield l) #[] #[]] 28 (0, 0)), (Bb, .cells #[.slice A b.length c] 22 (0, 0))] Ba
    (ChunkPure.head Z b.length ++ ((ChunkPure.parts Z b.length 0 b).take k).flatten) W
def MidX (Jx : Blocks → List (List Int) → World → Prop) (Bi : Nat) (r : Loop) (W : World) : Prop :=
  ∃ pre, Jx (fun k => k = Bi + 3 ∨ k = Bi + 4) pre W ∧ W.heap[Bi + 4]? = some (.loop { r with state := .done, pending := some .ret }) ∧ W.heap[Bi + 3]? = some (.deferred (some []))
set_option maxRecDepth 100000 in
set_option maxHeartbeats 4000000 in
theorem pieces_in (l Bb n : Nat) (hn1 : Aside0 (1 ≤ n)) (A : Option Addr) (c : Nat) (b : List Int) (J Jx : Blocks → List (List Int) → World → Prop) (W0 W : World) (hY : Yields l W0 (ChunkPure.pieces Z b) J Jx) (hG : Glob W0) (hR : Reads W0 A b) (hc : b.length ≤ c) (hlen : b.length ≤ 1048576)
    (hB : Below W0.heap.size W0 W) (hBb : W.heap[Bb]? = some (.cells #[.slice A b.length c] 22 (0, 0))) (hBb0 : W0.heap.size ≤ Bb) (h0 : J (fun k => k = Bb) [] W) :
    CallsIn Fence.wide n Tryd.prog 40 #[.func (.yield l) #[] #[], .pointer (some ⟨Bb, 0, none⟩)] W (Done J Jx (ChunkPure.pieces Z b)) := by
  have hcb := cell_of_box hBb
  have hblt := (Array.getElem?_eq_some_iff.1 hBb).1
  refine callsIn_of_wp_marks Tryd.func40 rfl trivial (wpIn_calm ?_) rfl
  simp only [Tryd.ntmps40, List.size_toArray, List.length_cons, List.length_nil, Nat.reduceAdd, Nat.reduceSub, Array.replicate_succ, Array.replicate_zero, List.push_toArray, List.append_toArray, List.nil_append, List.cons_append]
  gi_wp2
  refine ⟨trivial, fun h => (by cases h), ?_⟩
  refine (callsIn_wide.2 (chunk_head_calls b.length hlen _)).mono ?_
  rintro e w1 ⟨v1, rfl, ho, hb⟩
  have hz0 : (W.alloc (.cells #[.func (.yield l) #[] #[]] 28)).heap.size = W.heap.size + 1 := by show (W.heap.push _).size = _; simp
  have hBy : w1.heap[W.heap.size]? = some (.cells #[.func (.yield l) #[] #[]] 28 (0, 0)) := (hb.block _ (by rw [hz0]; omega)).trans (heap_alloc_new W _)
  have hBb1 : w1.heap[Bb]? = some (.cells #[.slice A b.length c] 22 (0, 0)) := (hb.block _ (by rw [hz0]; omega)).trans ((Below.heap_alloc W _ Bb hblt).trans hBb)
  have hK1 : Kept (fun _ => True) W w1 := ((Kept.refl _ W).alloc _).trans (S' := fun _ => True) (Kept.all hb) (fun _ _ h => h)
  have hs1 : W.heap.size + 1 ≤ w1.heap.size := by have := hb.size; omega
  rw [hz0] at ho
  obtain ⟨g1, c1, rfl, hg1, hg1', ce1, hce1⟩ := Kd.R_form ho (by rw [ChunkPure.head_length]; omega)
  have hc1 := (Kd.R_reads' ho).2.1
  rw [ChunkPure.head_length] at ho hc1 ⊢
  have HO1 := Aside0.mk ho
  have HK1 := Aside0.mk hK1
  have HBy := Aside0.mk hBy
  have HBb1 := Aside0.mk hBb1
  clear ho hb hK1 hBy hBb1 hcb hz0
  gi_wp2
  have hmix : Tryd.prog.follows .mixedOrders = true := by kernel_rfl
  have hw2s : (w1.alloc (.cells #[.slice (some ⟨g1, 0, none⟩) 12 c1] 22)).heap.size = w1.heap.size + 1 := by show (w1.heap.push _).size = _; simp
  have hst : St W0 (fun k => k = Bb ∨ (W.heap.size ≤ k ∧ k < w1.heap.size + 1)) [(W.heap.size, .cells #[.func (.yield l) #[] #[]] 28 (0, 0)), (Bb, .cells #[.slice A b.length c] 22 (0, 0))] w1.heap.size (ChunkPure.head Z b.length) (w1.alloc (.cells #[.slice (some ⟨g1, 0, none⟩) 12 c1] 22)) := by
    have hk := HK1.out.alloc (.cells #[.slice (some ⟨g1, 0, none⟩) 12 c1] 22)
    have hbs := hB.size
    refine ⟨hB.trans ((hk.mono (fun _ _ _ => trivial)).below hbs), fun k hk => ?_, fun p hp => ?_, _, World.alloc_heap_new w1 _, .inr ⟨by omega, by omega⟩, ?_⟩
    · rw [hw2s]
      rcases hk with rfl | hk <;> omega
    · simp only [List.mem_cons, List.not_mem_nil, or_false] at hp
      rcases hp with rfl | rfl
      · exact ⟨(Below.heap_alloc w1 _ _ (by show W.heap.size < _; omega)).trans HBy.out, .inr ⟨Nat.le_refl _, by omega⟩⟩
      · exact ⟨(Below.heap_alloc w1 _ _ (by show Bb < _; omega)).trans HBb1.out, .inl rfl⟩
    · exact Kd.R_mono (Kd.R_lower (row_bound (Kd.R_alloc HO1.out _)) (by omega)) (fun k hk => .inr ⟨by omega, by have := hk.2.2; omega⟩)
  have hj : J (fun k => k = Bb ∨ (W.heap.size ≤ k ∧ k < w1.heap.size + 1)) [] (w1.alloc (.cells #[.slice (some ⟨g1, 0, none⟩) 12 c1] 22)) :=
    hY.cj [] _ _ _ _ h0 ((HK1.out.alloc _).mono (fun _ _ _ => trivial)) (fun k hk ho => by omega)
  have hBa : (w1.alloc (.cells #[.slice (some ⟨g1, 0, none⟩) 12 c1] 22)).heap[w1.heap.size]? = some (.cells #[.slice (some ⟨g1, 0, none⟩) 12 c1] 22 (0, 0)) := World.alloc_heap_new w1 _
  have hgr : Reads (w1.alloc (.cells #[.slice (some ⟨g1, 0, none⟩) 12 c1] 22)) (some ⟨g1, 0, none⟩) (ChunkPure.head Z b.length) := (Kd.R_reads' (Kd.R_alloc HO1.out _)).2.2
  have hBlo : W.heap.size ≤ w1.heap.size := by omega
  generalize w1.alloc (.cells #[.slice (some ⟨g1, 0, none⟩) 12 c1] 22) = w2 at *
  generalize w1.heap.size = Ba at *
  generalize hO1 : (fun k => k = Bb ∨ (W.heap.size ≤ k ∧ k < Ba + 1)) = O1 at *
  clear HO1 HK1 HBy HBb1 hce1 hw2s h0
  have hcy := cell_of_box (hst.fix _ (List.mem_cons_self ..)).1
  have hca := cell_of_box hBa
  have hclone : CallsIn Fence.wide (n - 1) Tryd.prog 42 #[.slice (some ⟨g1, 0, none⟩) 12 c1] w2.drew (fun e w3 => ∃ g3 c3, e = .returned (.slice (some ⟨g3, 0, none⟩) 12 c3) ∧ w3.cell? ⟨W.heap.size, 0, none⟩ = some (.func (.yield l) #[] #[]) ∧
      YieldAt Fence.wide (n - 1) Tryd.prog l #[.slice (some ⟨g3, 0, none⟩) 12 c3] w3 fun e W' => ∃ r : Bool, e = .returned (.bool r) ∧ (r = true → ∃ O', J O' [ChunkPure.head Z b.length] W' ∧ St W0 O' [(W.heap.size, .cells #[.func (.yield l) #[] #[]] 28 (0, 0)), (Bb, .cells #[.slice A b.length c] 22 (0, 0))] Ba (ChunkPure.head Z b.length) W') ∧ (r = false → ∃ O pre, Jx O pre W')) := by
    have hl12 := ChunkPure.head_length Z b.length
    have hcc := bytes_Clone_calls ⟨g1, 0, none⟩ c1 (ChunkPure.head Z b.length) w2.drew (Kd.C_drew hgr) (by rw [hl12]; exact hc1) (by rw [hl12]; omega)
    rw [hl12] at hcc
    refine (callsIn_wide.2 hcc).mono ?_
    rintro e w3 ⟨v3, rfl, ho, hb⟩
    obtain ⟨g3, c3, rfl, hg3, hg3', ce3, hce3⟩ := Kd.R_form ho (by rw [hl12]; omega)
    have hrd := (Kd.R_reads' ho).2
    have hb3 : Below w2.heap.size w2 w3 := (Below.drew (Below.refl _ _)).trans hb
    rw [hl12]
    refine ⟨g3, c3, rfl, cell_of_box ((hst.below hb3).fix _ (List.mem_cons_self ..)).1, ?_⟩
    have hy := hst.yield_at hY hj hb3 hg3 hg3' hrd.2 (by rw [hl12]; omega) hrd.1 (prefix_next _ 0 _ rfl) (fun _ => False) (fun _ h => h.elim) (n - 1)
    rw [hl12] at hy
    refine hy.mono ?_
    rintro e W' (⟨rfl, O', h1, h2, h3, h4, h5, h6⟩ | ⟨rfl, h3, h4⟩)
    · exact ⟨true, rfl, fun _ => ⟨O', h3, h4⟩, fun h => (by cases h)⟩
    · exact ⟨false, rfl, fun h => (by cases h), fun _ => ⟨_, _, h3⟩⟩
  have HST := Aside0.mk hst
  have HJ := Aside0.mk hj
  clear hst hj
  rename_i K1 hK1 K2 hK2
  have hnext : ∀ (O4 : Blocks) (w4 : World) (g3 c3 : Nat), J O4 [ChunkPure.head Z b.length] w4 → St W0 O4 [(W.heap.size, .cells #[.func (.yield l) #[] #[]] 28 (0, 0)), (Bb, .cells #[.slice A b.length c] 22 (0, 0))] Ba (ChunkPure.head Z b.length) w4 →
      K1 { tmps := #[.func (.yield l) #[] #[], .pointer (some ⟨Bb, 0, none⟩), .pointer (some ⟨W.heap.size, 0, none⟩), .pointer (some ⟨Ba, 0, none⟩), undef, undef, undef, undef, .slice A b.length c, .int .i64 b.length, .slice (some ⟨g1, 0, none⟩) 12 c1, .func (.yield l) #[] #[], .slice (some ⟨g1, 0, none⟩) 12 c1, .slice (some ⟨g3, 0, none⟩) 12 c3, .bool true, .bool false, undef, undef, undef, undef, undef, undef, undef, undef, undef, undef, undef, undef, undef, undef, undef, undef, undef, undef, undef, undef], defers := [] } w4 := by
    clear hclone HST HJ hK2 hca hcy hgr hBa hO1
    intro O4 w4 g3 c3 hJ4 hst4
    apply hK1
    clear hK1
    have hcb4 := cell_of_box (hst4.fix (Bb, .cells #[.slice A b.length c] 22 (0, 0)) (by simp)).1
    have hlt4 : Bb < w4.heap.size := (hst4.lo Bb (hst4.fix (Bb, .cells #[.slice A b.length c] 22 (0, 0)) (by simp)).2).2
    have HJ4 := Aside0.mk hJ4
    have HST4 := Aside0.mk hst4
    clear hJ4 hst4
    gi_wp2
    refine ⟨trivial, fun h => (by cases h), ?_⟩
    refine (callsIn_wide.2 (chunk_calls A b.length c _)).mono ?_
    rintro e w5 ⟨rfl, rfl⟩
    have hst7 := ((HST4.out.alloc (.cells #[.int .i64 0] 3)).alloc (.cells #[.slice A b.length c] 22)).alloc (.cells #[.int .i64 100] 3)
    have hz5 : (w4.alloc (.cells #[.int .i64 0] 3)).heap.size = w4.heap.size + 1 := by show (w4.heap.push _).size = _; simp
    have hz6 : ((w4.alloc (.cells #[.int .i64 0] 3)).alloc (.cells #[.slice A b.length c] 22)).heap.size = w4.heap.size + 2 := by show (Array.push _ _).size = _; simp [hz5]
    rw [hz6, hz5] at hst7
    rw [hz5]
    have HK7 := Aside0.mk (((((Kept.refl (fun k => ¬ O4 k) w4).alloc (.cells #[.int .i64 0] 3)).alloc (.cells #[.slice A b.length c] 22)).alloc (.cells #[.int .i64 100] 3)))
    have hz7 : (((w4.alloc (.cells #[.int .i64 0] 3)).alloc (.cells #[.slice A b.length c] 22)).alloc (.cells #[.int .i64 100] 3)).heap.size = w4.heap.size + 3 := by show (Array.push _ _).size = _; simp [hz6]
    have hBa4 : Ba < w4.heap.size := by obtain ⟨va, h1, _⟩ := HST4.out.all; exact (Array.getElem?_eq_some_iff.1 h1).1
    have hBy4 : W.heap.size < w4.heap.size := (Array.getElem?_eq_some_iff.1 (HST4.out.fixAt (g := W.heap.size) (o := .cells #[.func (.yield l) #[] #[]] 28 (0, 0)) (by simp)).1).1
    generalize ((w4.alloc (.cells #[.int .i64 0] 3)).alloc (.cells #[.slice A b.length c] 22)).alloc (.cells #[.int .i64 100] 3) = w7 at *
    have hJ7 := hY.cj _ _ (fun k => ((O4 k ∨ k = w4.heap.size) ∨ k = w4.heap.size + 1) ∨ k = w4.heap.size + 2) _ w7 HJ4.out HK7.out (fun k hk ho => by rcases ho with ((h | h) | h) | h <;> first | exact h | omega)
    generalize hO7 : (fun k => ((O4 k ∨ k = w4.heap.size) ∨ k = w4.heap.size + 1) ∨ k = w4.heap.size + 2) = O7 at *
    have HST7 := Aside0.mk hst7
    have HJ7 := Aside0.mk hJ7
    clear hst7 hJ7 HK7 HJ4 HST4 hO7 hcb4 hz5 hz6
    have hBa7 : Ba < w4.heap.size := hBa4
    have hBy7 : W.heap.size < w4.heap.size := hBy4
    generalize w4.heap.size = Bi at *
    gi_wp2
    rename_i K3 hK3
    refine Go.Rounds.range_rec (gf := 49) (lb := #[.pointer (some ⟨Bi + 1, 0, none⟩), .pointer (some ⟨Bi + 1 + 1, 0, none⟩)]) rfl hn1.out rfl trivial (enters_of Tryd.func49 (by kernel_rfl) rfl) ?_
    intro r hrf hrs hrp hrt hrps hra hrb
    have hst8 := (HST7.out.alloc (.deferred (some []))).alloc (.loop r)
    have hz8 : (w7.alloc (.deferred (some []))).heap.size = Bi + 4 := by show (w7.heap.push _).size = _; simp [hz7]
    have hz9 : ((w7.alloc (.deferred (some []))).alloc (.loop r)).heap.size = Bi + 5 := by show (Array.push _ _).size = _; simp [hz8]
    have hJ8 := hY.cj _ _ (fun k => (O7 k ∨ k = w7.heap.size) ∨ k = (w7.alloc (.deferred (some []))).heap.size) _ _ HJ7.out (((Kept.refl (fun k => ¬ O7 k) w7).alloc (.deferred (some []))).alloc (.loop r)) (fun k hk ho => by rw [hz8] at ho; rcases ho with (h | h) | h <;> first | exact h | omega)
    generalize hO8 : (fun k => (O7 k ∨ k = w7.heap.size) ∨ k = (w7.alloc (.deferred (some []))).heap.size) = O8 at *
    clear hO8
    rw [hz7, hz8] at hst8
    rw [hz7]
    generalize (w7.alloc (.deferred (some []))).alloc (.loop r) = w9 at *
    clear hz8 HST7 HJ7
    have hround : ∀ (k : Nat) (ad : Addr) (Wr : World), Mid J A c b l W.heap.size Bb Ba Bi W0 r k Wr → A = some ad → 100 * k < b.length →
        YieldAt Fence.wide (n - 1 - 1) Tryd.prog (Bi + 4) #[.slice (some (ad.add (100 * k))) (min 100 (b.length - 100 * k)) (min 100 (b.length - 100 * k))] Wr fun e W' =>
          (e = .returned (.bool true) ∧ Mid J A c b l W.heap.size Bb Ba Bi W0 r (k + 1) W') ∨ (e = .returned (.bool false) ∧ MidX Jx Bi r W') := by
      clear hJ8 hst8 hK3 K3 hz9 w9 hz7 w7 hmix
      intro k ad Wr hM hA hk
      subst hA
      obtain ⟨O, hJ, hst⟩ := hM
      refine Go.Rounds.yield_of (r := r) hrf (hst.fixAt (o := .loop r) (by simp)).1 hrs (by rw [hrps]; rfl) ?_
      generalize hbz : ({ r with state := .busy } : Loop) = rb
      rw [hra, hrt, hrps, hrb]
      clear hra hrb hrt hrps
      simp only [List.zip_toArray, List.zip_cons_cons, List.zip_nil_right, List.foldl_toArray', List.foldl_cons, List.foldl_nil, List.setIfInBounds_toArray, List.set_cons_succ, List.set_cons_zero, List.size_toArray, List.length_cons, List.length_nil]
      gi_wp2
      refine ⟨(hst.fixAt (o := .loop r) (by simp)).1, ?_⟩
      have hstb := (hst.sub (fx' := [(Bi, .cells #[.int .i64 (k : Nat)] 3 (0, 0)), (Bi + 3, .deferred (some [])), (Bi + 2, .cells #[.int .i64 100] 3 (0, 0)), (Bi + 1, .cells #[.slice (some ad) b.length c] 22 (0, 0)), (W.heap.size, .cells #[.func (.yield l) #[] #[]] 28 (0, 0)), (Bb, .cells #[.slice (some ad) b.length c] 22 (0, 0))]) (fun p hp => by simp only [List.mem_cons, List.not_mem_nil, or_false] at hp ⊢; rcases hp with h | h | h | h | h | h <;> simp [h])).setObj (.loop rb) (hst.fixAt (g := Bi + 4) (o := .loop r) (by simp)).1 (notRow_loop r) (hst.fixAt (g := Bi + 4) (o := .loop r) (by simp)).2
        (fun p hp => by simp only [List.mem_cons, List.not_mem_nil, or_false] at hp; rcases hp with rfl | rfl | rfl | rfl | rfl | rfl <;> (dsimp only; omega)) (by omega)
      have hJb := hY.cj _ O O _ _ hJ ((Kept.refl (fun k => ¬ O k) Wr).putObj (Bi + 4) (.loop rb) (.inl (fun h => h (hst.fixAt (g := Bi + 4) (o := .loop r) (by simp)).2))) (fun _ _ h => h)
      clear hst hJ
      generalize Wr.putObj (Bi + 4) (.loop rb) = Wb at *
      clear Wr
      have hflen := front_length b k hlen
      obtain ⟨f, hf⟩ : ∃ f, f = ChunkPure.head Z b.length ++ ((ChunkPure.parts Z b.length 0 b).take k).flatten := ⟨_, rfl⟩
      rw [← hf] at hstb hflen
      have HF := Aside0.mk hf
      have HFL := Aside0.mk hflen
      clear hf hflen
      have hm : ((b.drop (100 * k)).take 100).length = min 100 (b.length - 100 * k) := by rw [List.length_take, List.length_drop]
      have hcR : Reads Wb (some (ad.add (100 * k))) ((b.drop (100 * k)).take 100) := by
        have h1 := Kd.C_drop (c := c) (Kd.C_below hR hstb.bel) (m := 100 * k) (by omega) hc
        rw [if_neg (by omega)] at h1
        simp only [Option.map_some, show (Kd.int IntKind.u8).sz = 1 from rfl, Nat.mul_one] at h1
        by_cases h100 : 100 ≤ (b.drop (100 * k)).length
        · exact Kd.C_take h1 h100
        · rw [List.take_of_length_le (by omega)]
          exact h1
      have hpp := pieces_part b k hk
      have hci := cell_of_box (hstb.fixAt (g := Bi) (o := .cells #[.int .i64 (k : Nat)] 3 (0, 0)) (by simp)).1
      have hpx := prefix_next _ _ _ hpp
      rw [← hm]
      have hpl := ChunkPure.part_length Z k ((b.drop (100 * k)).take 100)
      have hml : ((b.drop (100 * k)).take 100).length ≤ 100 := by rw [hm]; exact Nat.min_le_left _ _
      generalize (b.drop (100 * k)).take 100 = ch at *
      have HST := Aside0.mk hstb
      have HJ := Aside0.mk hJb
      have HPX := Aside0.mk hpx
      have HPP := Aside0.mk hpp
      have HM := Aside0.mk hm
      clear hstb hJb hpx hpp hm
      gi_wp2
      refine ⟨trivial, fun h => (by cases h), ?_⟩
      refine (CallsIn.inRound (Bi + 4) (callsIn_wide.2 (chunk_part_calls k (some (ad.add (100 * k))) ch.length ch Wb (by omega) (by omega) hcR (Nat.le_refl _)))).mono ?_
      rintro e w6 ⟨v6, rfl, ho6, hb6⟩
      obtain ⟨g6, c6, rfl, hg6, hg6', ce6, hce6⟩ := Kd.R_form ho6 (by rw [hpl]; omega)
      have hrd6 := (Kd.R_reads' ho6).2
      have hyl := HST.out.yield_at hY HJ.out hb6 hg6 hg6' hrd6.2 (by rw [hpl]; omega) hrd6.1 HPX.out (fun k => k = Bi + 3 ∨ k = Bi + 4) (fun k hk => by
        rcases hk with rfl | rfl
        · exact (HST.out.fixAt (g := Bi + 3) (o := .deferred (some [])) (by simp)).2
        · exact (HST.out.fixAt (g := Bi + 4) (o := .loop rb) (by simp)).2) (n - 1 - 1 - 1)
      obtain ⟨fn6, tmps6, assign6, body6, hy6, hR6⟩ := hyl
      have hst6 := HST.out.below hb6
      have hcy6 := cell_of_box (hst6.fixAt (g := W.heap.size) (o := .cells #[.func (.yield l) #[] #[]] 28 (0, 0)) (by simp)).1
      have hl3 := (hst6.fixAt (g := Bi + 3) (o := .deferred (some [])) (by simp)).1
      have hl4 := (hst6.fixAt (g := Bi + 4) (o := .loop rb) (by simp)).1
      have HL3 := Aside0.mk hl3
      have HL4 := Aside0.mk hl4
      have HRD := Aside0.mk hrd6
      clear hst6 ho6 hb6 hce6 hl3 hl4 hrd6 HST HJ hcR hci
      rw [hpl] at hy6
      gi_wp2
      refine ⟨fun h => (by cases h), ?_⟩
      refine RoundIn.ofWide (hR6.mono ?_)
      rintro e w8 (⟨rfl, O8, hO8, hg8, hJ8, hst8, hk8, hs8⟩ | ⟨rfl, hx8, hk8⟩)
      · obtain ⟨va, hva, hOa, hrow⟩ := hst8.all
        have hca8 := cell_of_box hva
        have hci8 := (hst8.fixAt (g := Bi) (o := .cells #[.int .i64 (k : Nat)] 3 (0, 0)) (by simp)).1
        have hrd8 := hk8.reads HRD.out.2 (.inl hg8)
        have HVA := Aside0.mk hva
        have HROW := Aside0.mk hrow
        have HRD8 := Aside0.mk hrd8
        have HST8 := Aside0.mk hst8
        have HJ8 := Aside0.mk hJ8
        have HC8 := Aside0.mk hci8
        clear hR6 hy6 hva hrow hrd8 hst8 hJ8 hci8 hk8 hcy6
        gi_wp2_with (gi_at_builtin; refine wpListIn_app rfl (.tmp 26) (.tmp 27) rfl rfl va f (ChunkPure.part Z k ch) ⟨g6, 0, none⟩ c6 rfl (by rw [hpl]; rfl) HROW.out HRD8.out HST8.out.bel.size (by have := HFL.out; rw [hpl]; omega) ?_; intro A9 c9 w9 hr9 hg9; have hb9 := HST8.out.spared HVA.out hg9 HVA.out (notRow_box (by decide)); have hcb9 := cell_of_box hb9; have hfb9 := frozen_of_box hb9; have hbi9 := HST8.out.spared HVA.out hg9 HC8.out (notRow_box (by decide)); have hci9 := cell_of_box hbi9; have hfi9 := frozen_of_box hbi9; have HR9 := Aside0.mk hr9; have HG9 := Aside0.mk hg9; clear hr9 hg9 hb9 hbi9)
        obtain ⟨hst10, hk10⟩ := HST8.out.app (fun p hp => by
            simp only [List.mem_cons, List.not_mem_nil, or_false] at hp
            rcases hp with rfl | rfl | rfl | rfl | rfl | rfl | rfl <;> first | exact notRow_loop _ | exact notRow_deferred _ | exact notRow_box (by decide))
          (fun p hp => by
            simp only [List.mem_cons, List.not_mem_nil, or_false] at hp
            rcases hp with rfl | rfl | rfl | rfl | rfl | rfl | rfl <;> (dsimp only; omega)) HVA.out HR9.out HG9.out
        rw [hpl] at hst10 hk10
        have hJ10 := hY.cj _ _ (fun k => O8 k ∨ (w8.heap.size ≤ k ∧ k < w9.heap.size)) _ _ HJ8.out hk10 (fun k hk ho => ho.elim id (fun h => by omega))
        clear HST8 HJ8 HVA HR9 HG9 hcb9 hfb9 hci9 hfi9 hk10 hca8 HC8
        generalize w9.setCell ⟨Ba, 0, none⟩ (.slice A9 (f.length + (ch.length + 7)) c9) = w10 at *
        generalize (fun k => O8 k ∨ (w8.heap.size ≤ k ∧ k < w9.heap.size)) = O10 at *
        have hbi := hst10.fixAt (g := Bi) (o := .cells #[.int .i64 (k : Nat)] 3 (0, 0)) (by simp)
        have hst11 := (hst10.sub (fx' := [(Bi + 4, .loop rb), (Bi + 3, .deferred (some [])), (Bi + 2, .cells #[.int .i64 100] 3 (0, 0)), (Bi + 1, .cells #[.slice (some ad) b.length c] 22 (0, 0)), (W.heap.size, .cells #[.func (.yield l) #[] #[]] 28 (0, 0)), (Bb, .cells #[.slice (some ad) b.length c] 22 (0, 0))]) (fun p hp => by simp only [List.mem_cons, List.not_mem_nil, or_false] at hp ⊢; rcases hp with h | h | h | h | h | h <;> simp [h])).setBox (u' := .int .i64 ((k : Int) + 1)) hbi.1 (by decide) hbi.2
          (fun p hp => by simp only [List.mem_cons, List.not_mem_nil, or_false] at hp; rcases hp with rfl | rfl | rfl | rfl | rfl | rfl <;> (dsimp only; omega)) (by omega)
        have hJ11 := hY.cj _ O10 O10 _ _ hJ10 ((Kept.refl (fun k => ¬ O10 k) w10).setCell ⟨Bi, 0, none⟩ (.int .i64 ((k : Int) + 1)) (.inl (fun h => h hbi.2))) (fun _ _ h => h)
        clear hst10 hJ10 hbi
        generalize w10.setCell ⟨Bi, 0, none⟩ (.int .i64 ((k : Int) + 1)) = w11 at *
        have hl11 := hst11.fixAt (g := Bi + 4) (o := .loop rb) (by simp)
        have hr : ({ r with state := .ready, pending := none } : Loop) = r := by
          cases r
          simp only at hrs hrp
          subst hrs hrp
          rfl
        refine ⟨by rw [hbz]; exact hl11.1, .inl ⟨rfl, O10, ?_, ?_⟩⟩
        · rw [hr]
          have := hY.cj _ O10 O10 _ _ hJ11 ((Kept.refl (fun k => ¬ O10 k) w11).putObj (Bi + 4) (.loop r) (.inl (fun h => h hl11.2))) (fun _ _ h => h)
          rw [show (ChunkPure.pieces Z b).take (k + 1 + 1) = (ChunkPure.pieces Z b).take (k + 1) ++ [ChunkPure.part Z k ch] by
            obtain ⟨h1, h2⟩ := List.getElem?_eq_some_iff.1 HPP.out
            rw [List.take_succ_eq_append_getElem h1, h2]]
          exact this
        · rw [hr]
          have := (hst11.sub (fx' := [(Bi, .cells #[.int .i64 ((k : Int) + 1)] 3 (0, 0)), (Bi + 3, .deferred (some [])), (Bi + 2, .cells #[.int .i64 100] 3 (0, 0)), (Bi + 1, .cells #[.slice (some ad) b.length c] 22 (0, 0)), (W.heap.size, .cells #[.func (.yield l) #[] #[]] 28 (0, 0)), (Bb, .cells #[.slice (some ad) b.length c] 22 (0, 0))]) (fun p hp => by simp only [List.mem_cons, List.not_mem_nil, or_false] at hp ⊢; rcases hp with h | h | h | h | h | h <;> simp [h])).setObj (.loop r) hl11.1 (notRow_loop rb) hl11.2
            (fun p hp => by simp only [List.mem_cons, List.not_mem_nil, or_false] at hp; rcases hp with rfl | rfl | rfl | rfl | rfl | rfl <;> (dsimp only; omega)) (by omega)
          have hff : f ++ ChunkPure.part Z k ch = ChunkPure.head Z b.length ++ ((ChunkPure.parts Z b.length 0 b).take (k + 1)).flatten := by
            have h3 := HPP.out
            unfold ChunkPure.pieces at h3
            rw [List.getElem?_cons_succ, List.getElem?_append_left (by have := ChunkPure.parts_count Z b.length 0 b (Nat.le_refl _); omega)] at h3
            obtain ⟨h1, h2⟩ := List.getElem?_eq_some_iff.1 h3
            rw [HF.out, List.take_succ_eq_append_getElem h1, h2]
            simp
          rw [← hff]
          refine this.sub (fun p hp => by simp only [List.mem_cons, List.not_mem_nil, or_false] at hp ⊢; rcases hp with h | h | h | h | h | h | h <;> simp [h])
      · gi_wp2
        have hl4 := hk8.block HL4.out (.inr rfl)
        refine ⟨by rw [hbz]; exact hl4, .inr ⟨rfl, _, hY.cx _ _ _ _ _ hx8 ((Kept.refl _ w8).putObj (Bi + 4) _ (.inl (fun h => h (.inr rfl)))) (fun _ _ h => h), ?_, ?_⟩⟩
        · exact World.putObj_heap_same (Array.getElem?_eq_some_iff.1 hl4).1
        · exact (World.putObj_heap_other (by omega)).trans (hk8.block HL3.out (.inl rfl))
    have h0 : Mid J A c b l W.heap.size Bb Ba Bi W0 r 0 w9 := ⟨O8, hJ8, by
      have := hst8.sub (fx' := [(Bi, .cells #[.int .i64 ((0 : Nat) : Int)] 3 (0, 0)), (Bi + 4, .loop r), (Bi + 3, .deferred (some [])), (Bi + 2, .cells #[.int .i64 100] 3 (0, 0)), (Bi + 1, .cells #[.slice A b.length c] 22 (0, 0)), (W.heap.size, .cells #[.func (.yield l) #[] #[]] 28 (0, 0)), (Bb, .cells #[.slice A b.length c] 22 (0, 0))]) (fun p hp => by simp only [List.mem_cons, List.not_mem_nil, or_false] at hp ⊢; rcases hp with h | h | h | h | h | h | h <;> simp [h])
      simpa using this⟩
    have hcall := chunk1_in (n - 1) (Bi + 4) (Bi + 1) (Bi + 2) A b.length c (by omega) hc (Mid J A c b l W.heap.size Bb Ba Bi W0 r) (MidX Jx Bi r)
      (fun k Wk hm => by
        obtain ⟨O, _, hs⟩ := hm
        exact ⟨cell_of_box (hs.fixAt (g := Bi + 1) (o := .cells #[.slice A b.length c] 22 (0, 0)) (by simp)).1, cell_of_box (hs.fixAt (g := Bi + 2) (o := .cells #[.int .i64 100] 3 (0, 0)) (by simp)).1⟩)
      (fun k Wk hm => by
        obtain ⟨O, hj, hs⟩ := hm
        exact ⟨O, hY.cj _ O O _ _ hj ((Kept.refl _ Wk).drew) (fun _ _ h => h), hs.drew⟩)
      hround
      (fun hpos => by
        cases hA : A with
        | some ad => exact ⟨ad, rfl⟩
        | none =>
          exfalso
          rw [hA] at hR
          obtain ⟨ad, e', _⟩ := Kd.at_int hR 0 (by omega) (by omega)
          cases e') w9 h0
    clear hround h0 hJ8 hst8
    have harr : ∀ (x y z : Value), (#[x] ++ #[y, z] : Array Value) = #[x, y, z] := fun _ _ _ => rfl
    rw [harr, show Bi + 3 + 1 = Bi + 4 from rfl, show Bi + 1 + 1 = Bi + 2 from rfl]
    refine hcall.mono ?_
    clear hcall
    rintro e Wz ⟨hv, ⟨k, hk1, hk2, O, hj, hst⟩ | ⟨pre, hx, hl4, hl3⟩⟩
    · refine ⟨hv, .inl ⟨(hst.fixAt (g := Bi + 4) (o := .loop r) (by simp)).1, ?_⟩⟩
      show K3 _ _
      apply hK3
      clear hK3
      have hkk : k = (ChunkPure.parts Z b.length 0 b).length := by have := ChunkPure.parts_count Z b.length 0 b (Nat.le_refl _); omega
      have hfr : ChunkPure.head Z b.length ++ ((ChunkPure.parts Z b.length 0 b).take k).flatten = ChunkPure.front Z b := by rw [hkk, List.take_length]; rfl
      have hps : (ChunkPure.pieces Z b).take (k + 1) ++ [Z.dig (ChunkPure.front Z b)] = ChunkPure.pieces Z b := by
        rw [hkk]
        simp [ChunkPure.pieces]
      have hfl := front_length b k hlen
      rw [hfr] at hst hfl
      have hl4 := hst.fixAt (g := Bi + 4) (o := .loop r) (by simp)
      generalize hrx : ({ r with state := .exhausted } : Loop) = rx
      have hstx := (hst.sub (fx' := [(Bi + 3, .deferred (some [])), (W.heap.size, .cells #[.func (.yield l) #[] #[]] 28 (0, 0))]) (fun p hp => by simp only [List.mem_cons, List.not_mem_nil, or_false] at hp ⊢; rcases hp with h | h <;> simp [h])).setObj (.loop rx) hl4.1 (notRow_loop r) hl4.2
        (fun p hp => by simp only [List.mem_cons, List.not_mem_nil, or_false] at hp; rcases hp with rfl | rfl <;> (dsimp only; omega)) (by omega)
      have hjx := hY.cj _ O O _ _ hj ((Kept.refl (fun k => ¬ O k) Wz).putObj (Bi + 4) (.loop rx) (.inl (fun h => h hl4.2))) (fun _ _ h => h)
      clear hst hj hl4 hrx hra hrb hrt hrps hrs hrp
      generalize Wz.putObj (Bi + 4) (.loop rx) = Wx at *
      generalize hpre : (ChunkPure.pieces Z b).take (k + 1) = pre at *
      clear hpre hkk
      obtain ⟨va, hva, hOa, hrow⟩ := hstx.all
      obtain ⟨Av, cv, rfl⟩ := Kd.R_slice hrow
      have hca := cell_of_box hva
      have hrd := (Kd.R_reads' hrow).2
      generalize hfrx : ChunkPure.front Z b = f at *
      have HST := Aside0.mk hstx
      have HJ := Aside0.mk hjx
      have HRD := Aside0.mk hrd
      have HPS := Aside0.mk hps
      have HFL := Aside0.mk hfl
      have HGX := Aside0.mk (hG.below hstx.bel)
      clear hstx hjx hrd hps hfl hrow hva hfr hfrx
      refine wpIn_seq (wpIn_wide.2 ?_)
      go_wp2_with (first
        | (go_at_call 29; refine (sha_Sum.calls Av cv f _ HGX.out HRD.out.2 HRD.out.1 (by have := HFL.out; omega)).mono ?_; rintro e wq ⟨rfl, hbq⟩; have HBQ := Aside0.mk hbq; clear hbq)
        | (refine wpList_alloc_row rfl 42 rfl _ info24' ?_)
        | (refine wpList_store_row rfl 42 _ _ rfl _ (part8u 32 (digest f)) rfl rfl 42 (part8u 32 []) (heap_alloc_new _ _) (by kernel_rfl) (by kernel_rfl) (p8_one _ _) ?_))
      have hbx := below_setRow (HBQ.out.alloc HBQ.out.size (.cells (part8u 32 []) 42)) HBQ.out.size (part8u 32 (digest f))
      have hbl := setRow_heap _ _ _ (part8u 32 (digest f)) _ _ (heap_alloc_new wq (.cells (part8u 32 []) 42))
      have hzy : wq.heap.size < ((wq.alloc (.cells (part8u 32 []) 42)).setRow wq.heap.size (part8u 32 (digest f))).heap.size := (Array.getElem?_eq_some_iff.1 hbl).1
      have hsq : Wx.heap.size ≤ wq.heap.size := HBQ.out.size
      generalize (wq.alloc (.cells (part8u 32 []) 42)).setRow wq.heap.size (part8u 32 (digest f)) = Wy at *
      generalize wq.heap.size = gs at *
      clear HBQ wq
      have hdl : (digest f).length = 32 := Z.hd f
      have hrdy : Reads Wy.drew (some ⟨gs, 0, none⟩) (digest f) := Kd.C_drew (reads_of_block (t := 42) (fr := (0, 0)) (by rw [hdl]; exact hbl) (by rw [hdl]; decide))
      have hbd := hbx.drew
      have hyl := HST.out.yield_at hY HJ.out hbd hsq hzy hrdy (by rw [hdl]; decide) (Nat.le_of_eq hdl) (show (pre ++ [digest f]) <+: ChunkPure.pieces Z b by rw [show digest f = Z.dig f from rfl, HPS.out]; exact List.prefix_refl _) (fun k => k = Bi + 3 ∨ k = Bi + 4) (fun k hk => by
        rcases hk with rfl | rfl
        · exact (HST.out.fixAt (g := Bi + 3) (o := .deferred (some [])) (by simp)).2
        · exact (HST.out.fixAt (g := Bi + 4) (o := .loop rx) (by simp)).2) (n - 1)
      have hstd := HST.out.below hbd
      have hcyd := cell_of_box (hstd.fixAt (g := W.heap.size) (o := .cells #[.func (.yield l) #[] #[]] 28 (0, 0)) (by simp)).1
      have hl3d := (hstd.fixAt (g := Bi + 3) (o := .deferred (some [])) (by simp)).1
      have hyl2 : YieldAt Fence.wide (n - 1) Tryd.prog l #[.slice (some ⟨gs, 0, none⟩) 32 32] Wy.drew fun e W' => ∃ rb : Bool, e = .returned (.bool rb) ∧ W'.heap[Bi + 3]? = some (.deferred (some [])) ∧ ∀ v, Done J Jx (ChunkPure.pieces Z b) (.returned v) (W'.putObj (Bi + 3) (.deferred none)) := by
        rw [hdl] at hyl
        refine hyl.mono ?_
        rintro e W' (⟨rfl, O', hO', hg', hj', hs', hk', _⟩ | ⟨rfl, hx', hk'⟩)
        · refine ⟨true, rfl, hk'.block hl3d (.inl (hO' _ (HST.out.fixAt (g := Bi + 3) (o := .deferred (some [])) (by simp)).2)), fun v => ⟨⟨_, rfl⟩, .inl ⟨O', ?_⟩⟩⟩
          rw [show digest f = Z.dig f from rfl, HPS.out] at hj'
          exact hY.cj _ O' O' _ _ hj' ((Kept.refl _ W').putObj (Bi + 3) _ (.inl (fun h => h (hO' _ (HST.out.fixAt (g := Bi + 3) (o := .deferred (some [])) (by simp)).2)))) (fun _ _ h => h)
        · refine ⟨false, rfl, hk'.block hl3d (.inl rfl), fun v => ⟨⟨_, rfl⟩, .inr ⟨_, _, hY.cx _ _ _ _ _ hx' ((Kept.refl _ W').putObj (Bi + 3) _ (.inl (fun h => h (.inl rfl)))) (fun _ _ h => h)⟩⟩⟩
      clear hyl hstd hbd hrdy hbl hbx HST HJ hl3d
      obtain ⟨fny, tmpsy, assigny, bodyy, hyy, hRy⟩ := hyl2
      have HRY := Aside0.mk hRy
      clear hRy
      have hcy0 : Wy.cell? ⟨W.heap.size, 0, none⟩ = some (.func (.yield l) #[] #[]) := hcyd
      gi_region_with_o (first | (refine ⟨fun h => (by cases h), ?_⟩; refine HRY.out.mono ?_; rintro e wk ⟨rk, rfl, hfin⟩; have HFIN := Aside0.mk hfin; clear hfin))
      all_goals exact ⟨by simp, .inl ⟨_, _, rfl, run_takeDeferred HFIN.out.1, ⟨_, results_none rfl _ _ _, HFIN.out.2 _⟩⟩⟩
    · refine ⟨hv, .inr ⟨hl4, wpIn_ret ?_⟩⟩
      show LeavesInM Fence.wide n Tryd.prog Tryd.f40 _ (Done J Jx (ChunkPure.pieces Z b)) [{ target := .collected (Bi + 3), args := #[] }] .returning _
      generalize hrx : ({ r with state := .exhausted, pending := some .ret } : Loop) = rx
      refine ⟨by simp, .inl ⟨_, _, rfl, run_takeDeferred ((World.putObj_heap_other (by omega)).trans hl3), ⟨_, results_none rfl _ _ _, ⟨_, rfl⟩, .inr ⟨_, _, hY.cx _ _ _ _ _ hx (((Kept.refl _ Wz).putObj (Bi + 4) _ (.inl (fun h => h (.inr rfl)))).putObj (Bi + 3) _ (.inl (fun h => h (.inl rfl)))) (fun _ _ h => h)⟩⟩⟩⟩
  clear hK1
  gi_region_with_o (first
    | (refine ⟨trivial, fun h => (by cases h), ?_⟩; gi_at_call 42; refine hclone.mono ?_; clear hclone; rintro e w3 ⟨g3, c3, rfl, hcy3, fn, tmps, assign, body, hy, hR3⟩)
    | (refine ⟨fun h => (by cases h), ?_⟩; refine hR3.mono ?_; clear hR3 hy; rintro e w4 ⟨r4, rfl, hr4⟩; have HR4 := Aside0.mk hr4; clear hr4))
  all_goals (
    cases r4 with
    | true =>
      obtain ⟨O4, hj4, hs4⟩ := HR4.out.1 rfl
      gi_wp2
      exact hnext _ _ _ _ hj4 hs4
    | false =>
      obtain ⟨O4, pre, hx4⟩ := HR4.out.2 rfl
      gi_wp2
      exact ⟨_, results_none rfl _ _ _, ⟨_, rfl⟩, .inr ⟨O4, pre, hx4⟩⟩)
end Go.Proofs.YtpnlpbbnakplhaaDoor
