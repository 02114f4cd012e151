/- What an iterator with cells of its own and its rounds promise each other; the iterator's state, step by step. -/
import Derived.Test.YtpnlpbbnakplhaaDoorSeqB
namespace Go.Proofs.YtpnlpbbnakplhaaDoor
open Go.RowKit Go.Shelf Go.Proofs.YtpnlpbbnakplhaaDoorW.PrintWords Go.Proofs.YtpnlpbbnakplhaaDoorW.PrintLast Go.Proofs.YtpnlpbbnakplhaaDoorW.PrintMore
set_option linter.unusedVariables false
abbrev Blocks := Nat → Prop
/-- A relation that asks nothing of the blocks in O. -/
def Closed (J : Blocks → World → Prop) : Prop := ∀ O O' W W', J O W → Kept (fun k => ¬ O k) W W' → (∀ k, k < W.heap.size → O' k → O k) → J O' W'
/-- The rounds' word, at each of the pieces ps: O: the blocks that the iterator has; O2: those that it writes when a round has said 'no more'. -/
structure Yields (l : Nat) (W0 : World) (ps : List (List Int)) (J Jx : Blocks → List (List Int) → World → Prop) : Prop where
  cj : ∀ pre, Closed (fun O W => J O pre W)
  cx : ∀ pre, Closed (fun O W => Jx O pre W)
  round : ∀ (m : Nat) (O O2 : Blocks) (pre : List (List Int)) (x : List Int) (ad : Addr) (c : Nat) (W : World), J O pre W → Below W0.heap.size W0 W → (∀ k, O k → W0.heap.size ≤ k ∧ k < W.heap.size) → (∀ k, O2 k → O k) → ¬ O2 ad.block → O ad.block →
    Reads W (some ad) x → 0 < x.length → x.length ≤ c → (pre ++ [x]) <+: ps →
    YieldAt Fence.wide m Tryd.prog l #[.slice (some ad) x.length c] W fun e W' => (e = .returned (.bool true) ∧ J O (pre ++ [x]) W' ∧ Kept (fun k => O k ∨ k < W0.heap.size) W W') ∨ (e = .returned (.bool false) ∧ Jx O2 (pre ++ [x]) W' ∧ Kept O2 W W')
/-- No row of bytes. -/
def NotRow (o : Obj) : Prop := ∀ cells, o ≠ .cells cells 5 (0, 0)
theorem row_apart {W : World} {base : Nat} {ok : Blocks} {v : Value} {l : List Int} (hr : Row W base ok v l) {g : Nat} {o : Obj} (hg : W.heap[g]? = some o) (ho : NotRow o) : Row W base (fun k => ok k ∧ k ≠ g) v l :=
  Kd.R_mono (Kd.R_bound hr) (fun k hk => ⟨hk.1, by
    rintro rfl
    obtain ⟨_, _, _, q, hq, cells, hc⟩ := hk
    rw [hg] at hc
    injection hc with hc
    have : q = 5 := by simpa [Kd.int, Kd.scalar] using hq
    subst this
    exact ho _ hc⟩)
theorem row_bound {W : World} {base : Nat} {ok : Blocks} {v : Value} {l : List Int} (hr : Row W base ok v l) : Row W base (fun k => ok k ∧ base ≤ k ∧ k < W.heap.size) v l := Kd.R_mono (Kd.R_bound hr) (fun k hk => ⟨hk.1, hk.2.1, hk.2.2.1⟩)
/-- The iterator's state: its blocks; those whose content is known; the bytes that have come (in the box Ba). -/
structure St (W0 : World) (O : Blocks) (fx : List (Nat × Obj)) (Ba : Nat) (f : List Int) (W : World) : Prop where
  bel : Below W0.heap.size W0 W
  lo : ∀ k, O k → W0.heap.size ≤ k ∧ k < W.heap.size
  fix : ∀ p ∈ fx, W.heap[p.1]? = some p.2 ∧ O p.1
  all : ∃ va, W.heap[Ba]? = some (.cells #[va] 22 (0, 0)) ∧ O Ba ∧ Row W W0.heap.size O va f
namespace St
variable {W0 W W' : World} {O O' : Blocks} {fx fx' : List (Nat × Obj)} {Ba : Nat} {f : List Int}
theorem keep (h : St W0 O fx Ba f W) (hk : Kept (fun k => O k ∨ k < W0.heap.size) W W') : St W0 O fx Ba f W' := by
  obtain ⟨hb, hl, hf, va, h1, h2, h3⟩ := h
  refine ⟨hb.trans ((hk.mono (fun k _ hk => .inr hk)).below hb.size), fun k hk' => ⟨(hl k hk').1, Nat.lt_of_lt_of_le (hl k hk').2 hk.size⟩, fun p hp => ⟨hk.block (hf p hp).1 (.inl (hf p hp).2), (hf p hp).2⟩, va, hk.block h1 (.inl h2), h2, hk.row h3 (fun k ho => .inl ho)⟩
theorem below (h : St W0 O fx Ba f W) (hk : Below W.heap.size W W') : St W0 O fx Ba f W' := h.keep (Kept.all hk)
theorem more (h : St W0 O fx Ba f W) (ho : ∀ k, O k → O' k) (hl : ∀ k, O' k → O k ∨ (W0.heap.size ≤ k ∧ k < W.heap.size)) : St W0 O' fx Ba f W := by
  obtain ⟨hb, hl0, hf, va, h1, h2, h3⟩ := h
  exact ⟨hb, fun k hk => (hl k hk).elim (hl0 k) id, fun p hp => ⟨(hf p hp).1, ho _ (hf p hp).2⟩, va, h1, ho _ h2, Kd.R_mono h3 ho⟩
theorem sub (h : St W0 O fx Ba f W) (hs : ∀ p ∈ fx', p ∈ fx) : St W0 O fx' Ba f W := ⟨h.bel, h.lo, fun p hp => h.fix p (hs p hp), h.all⟩
theorem one (h : St W0 O fx Ba f W) {g : Nat} {o : Obj} (hg : W.heap[g]? = some o) (ho : O g) : St W0 O ((g, o) :: fx) Ba f W :=
  ⟨h.bel, h.lo, fun p hp => by
    rcases List.mem_cons.1 hp with rfl | hp
    · exact ⟨hg, ho⟩
    · exact h.fix p hp, h.all⟩
/-- A new block, of the iterator's. -/
theorem alloc (h : St W0 O fx Ba f W) (o : Obj) : St W0 (fun k => O k ∨ k = W.heap.size) ((W.heap.size, o) :: fx) Ba f (W.alloc o) := by
  have h1 := h.below ((Below.refl _ W).alloc (Nat.le_refl _) o)
  have hs := h.bel.size
  have hz : (W.alloc o).heap.size = W.heap.size + 1 := by show (W.heap.push o).size = _; simp
  refine one (h1.more (fun k hk => .inl hk) (fun k hk => hk.elim .inl (fun e => .inr (by subst e; omega)))) (World.alloc_heap_new W o) (.inr rfl)
theorem drew (h : St W0 O fx Ba f W) : St W0 O fx Ba f W.drew := h.below (Below.drew (Below.refl _ _))
/-- What is known of a block is written over: any step that leaves the others alone. -/
theorem over (h : St W0 O fx Ba f W) {g : Nat} {o o' : Obj} (hg : W.heap[g]? = some o) (hO : O g) (hno : NotRow o) (hne : ∀ p ∈ fx, p.1 ≠ g) (ha : Ba ≠ g) (hk : Kept (fun k => k ≠ g) W W') (ho : W'.heap[g]? = some o') : St W0 O ((g, o') :: fx) Ba f W' := by
  obtain ⟨hb, hl, hf, va, h1, h2, h3⟩ := h
  have hlo := (hl g hO).1
  refine ⟨hb.trans ((hk.mono (fun k _ hk => by show k ≠ g; omega)).below hb.size), fun k hk' => ⟨(hl k hk').1, Nat.lt_of_lt_of_le (hl k hk').2 hk.size⟩, fun p hp => ?_, va, hk.block h1 ha, h2, Kd.R_drop (hk.row (row_apart h3 hg hno) (fun k hk => hk.2))⟩
  rcases List.mem_cons.1 hp with rfl | hp
  · exact ⟨ho, hO⟩
  · exact ⟨hk.block (hf p hp).1 (hne p hp), (hf p hp).2⟩
theorem setBox (h : St W0 O fx Ba f W) {g t : Nat} {u u' : Value} (hg : W.heap[g]? = some (.cells #[u] t (0, 0))) (ht : t ≠ 5) (hO : O g) (hne : ∀ p ∈ fx, p.1 ≠ g) (ha : Ba ≠ g) : St W0 O ((g, .cells #[u'] t (0, 0)) :: fx) Ba f (W.setCell ⟨g, 0, none⟩ u') :=
  h.over hg hO (fun cells e => by injection e with _ e; exact ht e) hne ha ((Kept.refl _ W).setCell _ _ (.inl (fun hh => hh rfl))) (by rw [heap_setCell_same _ _ _ _ _ _ hg]; rfl)
theorem setObj (h : St W0 O fx Ba f W) {g : Nat} {o : Obj} (o' : Obj) (hg : W.heap[g]? = some o) (hno : NotRow o) (hO : O g) (hne : ∀ p ∈ fx, p.1 ≠ g) (ha : Ba ≠ g) : St W0 O ((g, o') :: fx) Ba f (W.putObj g o') :=
  h.over hg hO hno hne ha ((Kept.refl _ W).putObj _ _ (.inl (fun hh => hh rfl))) (World.putObj_heap_same (Array.getElem?_eq_some_iff.1 hg).1)
/-- The bytes that have come grow: an append onto the box's row, and the store. -/
theorem app (h : St W0 O fx Ba f W) (hnr : ∀ p ∈ fx, NotRow p.2) (hne : ∀ p ∈ fx, p.1 ≠ Ba) {va v1 : Value} (hva : W.heap[Ba]? = some (.cells #[va] 22 (0, 0))) {f' : List Int} {W1 : World}
    (hr : Row W1 W0.heap.size (fun k => O k ∨ W.heap.size ≤ k) v1 f') (hg : W.grownBy W1 va.ownBlock) :
    St W0 (fun k => O k ∨ (W.heap.size ≤ k ∧ k < W1.heap.size)) fx Ba f' (W1.setCell ⟨Ba, 0, none⟩ v1) ∧ Kept (fun k => ¬ O k) W (W1.setCell ⟨Ba, 0, none⟩ v1) := by
  obtain ⟨hb, hl, hf, va', h1, h2, h3⟩ := h
  rw [hva] at h1
  obtain rfl : va = va' := by injection h1 with h1; injection h1 with h1; simpa using h1
  clear h1
  have hown : ∀ k, va.ownBlock = some k → O k ∧ W0.heap.size ≤ k ∧ ∃ cells, W.heap[k]? = some (.cells cells 5 (0, 0)) := fun k hk => ⟨h3.1 k hk, Kd.R_base h3 k hk, Kd.R_typed h3 k hk⟩
  have hba : W1.heap[Ba]? = some (.cells #[va] 22 (0, 0)) := (hg.block Ba (Array.getElem?_eq_some_iff.1 hva).1 (fun e => by
    obtain ⟨_, _, cells, hc⟩ := hown Ba e.symm
    rw [hva] at hc; injection hc with hc; injection hc with _ hc; cases hc)).trans hva
  have hsz : (W1.setCell ⟨Ba, 0, none⟩ v1).heap.size = W1.heap.size := by simp [World.setCell]
  refine ⟨⟨(hb.grown hg hb.size (fun k hk => (hown k hk).2.1)).setCell (p := ⟨Ba, 0, none⟩) (hl Ba h2).1 v1, fun k hk => ?_, fun p hp => ⟨?_, .inl (hf p hp).2⟩, v1, by rw [heap_setCell_same _ _ _ _ _ _ hba]; rfl, .inl h2, ?_⟩, ?_⟩
  · rw [hsz]
    have := hb.size
    have := hg.size
    rcases hk with hk | hk
    · have := hl k hk; omega
    · omega
  · rw [Below.heap_setCell _ _ _ _ (hne p hp)]
    refine (hg.block p.1 (Array.getElem?_eq_some_iff.1 (hf p hp).1).1 (fun e => ?_)).trans (hf p hp).1
    obtain ⟨_, _, cells, hc⟩ := hown p.1 e.symm
    rw [(hf p hp).1] at hc
    injection hc with hc
    exact hnr p hp _ hc
  · have hr2 : Row W1 W0.heap.size (fun k => (O k ∨ (W.heap.size ≤ k ∧ k < W1.heap.size)) ∧ k ≠ Ba) v1 f' := Kd.R_mono (row_bound (row_apart hr hba (fun cells e => by injection e with _ e; cases e))) (fun k hk => ⟨hk.1.1.elim .inl (fun hh => .inr ⟨hh, hk.2.2⟩), hk.1.2⟩)
    exact Kd.R_drop (Kd.R_far hr2 (p := ⟨Ba, 0, none⟩) (fun k hk => hk.2) v1)
  · exact (((Kept.refl _ W).grown hg (fun k hk => .inl (fun hn => hn (hown k hk).1))).setCell ⟨Ba, 0, none⟩ v1 (.inl (fun hn => hn h2)))
theorem fixAt (h : St W0 O fx Ba f W) {g : Nat} {o : Obj} (hm : (g, o) ∈ fx) : W.heap[g]? = some o ∧ O g := h.fix (g, o) hm
/-- A block that the append onto the box's row leaves alone. -/
theorem spared (h : St W0 O fx Ba f W) {va : Value} (hva : W.heap[Ba]? = some (.cells #[va] 22 (0, 0))) {W1 : World} (hg : W.grownBy W1 va.ownBlock) {g : Nat} {o : Obj} (ho : W.heap[g]? = some o) (hno : NotRow o) : W1.heap[g]? = some o := by
  obtain ⟨hb, hl, hf, va', h1, h2, h3⟩ := h
  rw [hva] at h1
  obtain rfl : va = va' := by injection h1 with h1; injection h1 with h1; simpa using h1
  refine (hg.block g (Array.getElem?_eq_some_iff.1 ho).1 (fun e => ?_)).trans ho
  obtain ⟨cells, hc⟩ := Kd.R_typed h3 g e.symm
  rw [ho] at hc
  injection hc with hc
  exact hno _ hc
end St
theorem notRow_box {u : Value} {t : Nat} {fr : Nat × Nat} (ht : t ≠ 5) : NotRow (.cells #[u] t fr) := fun cells e => by injection e with _ e; exact ht e
theorem notRow_loop (r : Loop) : NotRow (.loop r) := fun cells e => by cases e
theorem notRow_deferred (d : Option (List Deferred)) : NotRow (.deferred d) := fun cells e => by cases e
theorem reads_of_block {W : World} {g t : Nat} {l : List Int} {fr : Nat × Nat} (h : W.heap[g]? = some (.cells (part8u l.length l) t fr)) (hm : l.length ≤ 9223372036854775807) : Reads W (some ⟨g, 0, none⟩) l := by
  refine Kd.C_of_reads (d := 0) (h1 := fun _ => rfl) ⟨rfl, hm, fun _ => ⟨_, rfl, fun j hj => ?_⟩⟩
  rw [Addr.add_lit, Nat.zero_add, cell_of_row _ _ _ _ _ _ h, p8_at _ _ _ hj]
  simp [rd, List.getD, hj]
theorem cell_of_box {W : World} {g t : Nat} {u : Value} (h : W.heap[g]? = some (.cells #[u] t (0, 0))) : W.cell? ⟨g, 0, none⟩ = some u := by rw [cell_of_row _ _ _ _ _ _ h]; rfl
theorem frozen_of_box {W : World} {g t : Nat} {u : Value} (h : W.heap[g]? = some (.cells #[u] t (0, 0))) : W.frozen? ⟨g, 0, none⟩ = false := frozen_of_row _ _ _ _ _ h
/-- An append onto a row of the call's own. -/
theorem app_run {W : World} {base : Nat} {ok : Blocks} {v : Value} {l ys : List Int} {ad : Addr} (c : Nat) (HO : Row W base ok v l) (HR : Reads W (some ad) ys) (hb : base ≤ W.heap.size) (hl : l.length + ys.length ≤ 140737488355328) :
    ∃ A1 c1 w1, (Builtin.append_ #[22, 22] 22 #[v, .slice (some ad) ys.length c]).run Tryd.prog W = .ok (.slice A1 (l.length + ys.length) c1) w1 ∧ Row w1 base (fun k => ok k ∨ W.heap.size ≤ k) (.slice A1 (l.length + ys.length) c1) (l ++ ys) ∧ W.grownBy w1 v.ownBlock := by
  obtain ⟨i0, hi, hz0, hz1, hz2⟩ := info_parts info5
  have hown := Kd.own_of_R HO
  obtain ⟨v1, w1, hrun, h2, hg, _, hat⟩ := run_append_own_at (P := Tryd.prog) W base 22 22 5 i0 (.int .u8 0) 1 1 Tryd.underlying22 hi hz0 hz1 hz2 rfl (by decide) v l.length _ hown ad ys.length c (ys.map (Value.int .u8)) (by simp) (fun j u hj => by
    have hjl : j < ys.length := by
      rcases Nat.lt_or_ge j ys.length with h | h
      · exact h
      · simp [List.getElem?_eq_none (show (ys.map (Value.int .u8)).length ≤ j by simpa using h)] at hj
    obtain ⟨ad', e', hc'⟩ := Kd.at_int HR (j : Int) (by omega) (by omega)
    cases e'
    rw [Int.toNat_natCast] at hc'
    rw [hc']
    simp [List.getElem?_eq_getElem hjl] at hj
    subst hj
    simp [rd, List.getD, List.getElem?_eq_getElem hjl]) (fun u hu => by obtain ⟨x, _, rfl⟩ := List.mem_map.1 hu; rfl) (by simp only [maxLen]; omega) (by omega) hb
  have hr : Row w1 base (fun k => ok k ∨ W.heap.size ≤ k) v1 (l ++ ys) := by
    refine Kd.R_of_own (enc := Value.int .u8) ?_ (fun k hk => ?_)
    · rw [List.length_append]
      simpa [encs] using h2
    · rcases hat with hat | hat
      · rw [hat] at hk; exact .inl (HO.1 k hk)
      · rw [hat] at hk; cases hk; exact .inr (Nat.le_refl _)
  obtain ⟨A1, c1, rfl⟩ := Kd.R_slice hr
  rw [List.length_append] at hrun hr
  exact ⟨A1, c1, w1, hrun, hr, hg⟩
theorem wpListIn_app {F : Fence} {n : Nat} {ops : Array Oper} {rest : List Oper} {o : Oper} {a : Act} {Q : Exit → Act → World → Prop} {W : World} (hgd : o.guard = none) (s x : Operand) (hop : o.op = Op.call { callee := Callee.builtin Builtin.append, args := #[s, x], argTypes := #[22, 22] }) (hty : o.type = 22)
    {base : Nat} {ok : Blocks} (v : Value) (l ys : List Int) (ad : Addr) (c : Nat) (hs : a.eval s = v) (hx : a.eval x = .slice (some ad) ys.length c) (HO : Row W base ok v l) (HR : Reads W (some ad) ys) (hb : base ≤ W.heap.size) (hl : l.length + ys.length ≤ 140737488355328)
    (h : ∀ A1 c1 w1, Row w1 base (fun k => ok k ∨ W.heap.size ≤ k) (.slice A1 (l.length + ys.length) c1) (l ++ ys) → W.grownBy w1 v.ownBlock → wpListIn F n Tryd.prog ops Q rest (a.put o.dst (.slice A1 (l.length + ys.length) c1)) w1) :
    wpListIn F n Tryd.prog ops Q (o :: rest) a W := by
  refine wpListIn_plain hgd fun K hK' => ?_
  obtain ⟨A1, c1, w1, hrun, r1, r2⟩ := app_run c HO HR hb hl
  unfold Oper.wpIn
  refine ⟨?_, ?_⟩
  · simp [Oper.about, hop, resolve, Target.leads, Sem.run_pure]
  · rw [Oper.semAt_plain F _ _ (by rw [hop]; intro c hc'; cases hc')]
    simp [execOp, hop, hty, resolve, invoke, builtin, hs, hx, hrun, Result.andThen]
    exact hK' _ _ (h A1 c1 w1 r1 r2)
end Go.Proofs.YtpnlpbbnakplhaaDoor
