/- The shadow's append. No condition. -/
import Derived.Test.YtobamidecbfgpaaGreatDoorSh6
namespace Go.Sh
open Go.RowKit
set_option linter.unusedVariables false
section
variable {P : Program} {W : World} {E0 : Env} {w0 : World} {M : Nat → Prop} {N : Nat} {σ : St} {E : Env} {a : Act} {w : World}
def tby (P : Program) (t : TypeId) : Option Nat := (P.info? t).map (·.bytes)
def elems (sz : Nat) : D → Option (List D)
  | .nil => some []
  | .sl sz' es _ => if sz' = sz then some es else none
  | _ => none
def mayApp (t : Nat) (tp : Nat → Option (Nat × Nat)) : D → Bool
  | .nil => true
  | .sl _ _ .full => true
  | .sl _ es (.op k g) => k == t && tp t == some (g, es.length)
  | _ => false
def appD (P : Program) (t : TypeId) (tp : Nat → Option (Nat × Nat)) (c : Nat) (s x : D) : Option (D × (Nat → Option (Nat × Nat)) × Nat) :=
  match P.underlying t with
  | some (.slice e) => match tsz P e, tby P e, zeroD P e with
    | some sz, some by_, some z => match elems sz s, elems sz x with
      | some es, some es2 =>
        if es2.isEmpty = true then some (s, tp, c)
        else if 0 < sz ∧ z.solid = true ∧ z.cells.length = sz ∧ (es.length + es2.length) * by_ ≤ 140737488355328 ∧ es.length + es2.length ≤ 4611686018427387904 ∧ mayApp t tp s = true then
          some (.sl sz (es ++ es2) (.op t c), upd tp t (some (c, es.length + es2.length)), c + 1)
        else none
      | _, _ => none
    | _, _, _ => none
  | _ => none
/-- The cells of a slice as a list. -/
theorem slice_list {blk off n cap sz : Nat} {es : List D} {o : Own} (h : Rep E w (.slice (some ⟨blk, off, none⟩) n cap) (.sl sz es o)) (h0 : 0 < sz) : es.length = n ∧ n ≤ cap ∧ cap ≤ maxLen ∧ OwnOk E blk off cap sz n o ∧ (∀ d ∈ es, d.cells.length = sz) ∧
    ∃ l : List Value, l.length = n * sz ∧ (∀ j u, l[j]? = some u → w.cell? ((⟨blk, off, none⟩ : Addr).add j) = some u) ∧ (∀ u ∈ l, u.oneCell' = true) ∧
      (∀ i j, i < n → j < sz → Rep E w (l.getD (i * sz + j) undef) ((es.getD i .u).cells.getD j .u)) := by
  cases h with
  | sl _ _ _ _ _ _ _ f hn hcap hmax ho hg h1 hc hr =>
  refine ⟨hn, hcap, hmax, ho, hg, (List.range (n * sz)).map (fun q => f (q / sz) (q % sz)), by simp, fun j u hu => ?_, fun u hu => ?_, fun i j hi hj => ?_⟩
  · have hj : j < n * sz := by
      have := (List.getElem?_eq_some_iff.1 hu).1
      simpa using this
    simp [hj] at hu
    subst hu
    rw [add_eq]
    have h2 := (hc (j / sz) (j % sz) ((Nat.div_lt_iff_lt_mul h0).2 hj) (Nat.mod_lt _ h0)).1
    rw [Nat.div_add_mod' j sz] at h2
    exact h2
  · obtain ⟨q, hq, rfl⟩ := List.mem_map.1 hu
    have hq' : q < n * sz := by simpa using hq
    exact h1 _ _ ((Nat.div_lt_iff_lt_mul h0).2 hq') (Nat.mod_lt _ h0)
  · have hlt : i * sz + j < n * sz := by
      have := Nat.mul_le_mul_right sz (show i + 1 ≤ n from hi)
      rw [Nat.add_mul] at this
      omega
    rw [getD_range_map _ _ _ _ hlt]
    have e1 : (i * sz + j) / sz = i := by rw [Nat.mul_comm, Nat.mul_add_div h0, Nat.div_eq_of_lt hj, Nat.add_zero]
    have e2 : (i * sz + j) % sz = j := by rw [Nat.mul_comm, Nat.mul_add_mod, Nat.mod_eq_of_lt hj]
    rw [e1, e2]
    exact hr i j hi hj
theorem getD_append {α : Type} (a b : List α) (j : Nat) (u : α) : (a ++ b).getD j u = if j < a.length then a.getD j u else b.getD (j - a.length) u := by
  simp only [List.getD]
  split
  · rw [List.getElem?_append_left (by assumption)]
  · rw [List.getElem?_append_right (by omega)]
/-- The state behind an append. -/
def St.app (σ : St) (dst : Option Tmp) (r : D) (tp : Nat → Option (Nat × Nat)) (c : Nat) : St := { σ.put dst r with tp := tp, c := c }
theorem Sim.row (h : Sim W E0 w0 M N σ E a w) {w' : World} {t blk cap n m sz : Nat} {es es2 : List D} {olds news : List Value} {cur : Array Value} {e : TypeId} (h0 : 0 < sz) (hos : w'.os = w.os) (htape : w'.tape = w.tape) (hout : w'.output = w.output) (hsize : w.heap.size ≤ w'.heap.size)
    (hoth : ∀ b, b < w.heap.size → b ≠ blk → w'.heap[b]? = w.heap[b]?) (hrow : w'.heap[blk]? = some (.cells cur e (0, 0))) (hcur : cur.size = cap * sz) (htake : cur.toList.take ((n + m) * sz) = olds ++ news) (hnm : n + m ≤ cap) (hmax : cap ≤ maxLen)
    (hol : olds.length = n * sz) (hnl : news.length = m * sz) (hes : es.length = n) (hes2 : es2.length = m) (hg : ∀ d ∈ es ++ es2, d.cells.length = sz) (h1o : ∀ u ∈ olds ++ news, u.oneCell' = true)
    (hro : ∀ i j, i < n → j < sz → Rep E w (olds.getD (i * sz + j) undef) ((es.getD i .u).cells.getD j .u)) (hrn : ∀ i j, i < m → j < sz → Rep E w (news.getD (i * sz + j) undef) ((es2.getD i .u).cells.getD j .u))
    (hpre : ∀ o, o < E.pr blk → w'.cell? ⟨blk, o, none⟩ = w.cell? ⟨blk, o, none⟩) (hpr : E.pr blk ≤ (n + m) * sz)
    (hwho : (blk = w.heap.size) ∨ (∃ T, E.top t = some T ∧ T.blk = blk)) {dst : Option Tmp} (hd : ∀ t, dst = some t → t < N) :
    ∃ E', Sim W E0 w0 M N (σ.app dst (.sl sz (es ++ es2) (.op t σ.c)) (upd σ.tp t (some (σ.c, n + m))) (σ.c + 1)) E' (a.put dst (.slice (some ⟨blk, 0, none⟩) (n + m) cap)) w' := by
  have hb := h.base
  have hin : w0.heap.size ≤ blk ∨ M blk := by
    rcases hwho with rfl | ⟨T, hT, rfl⟩
    · exact .inl hb.kp.size
    · exact (hb.top.at_ t T hT).2.2.2.2.2.1
  have hWle : W.heap.size ≤ blk := hin.elim (fun h => Nat.le_trans hb.wle h) (hb.mle blk)
  have hboxne : ∀ k g b, E.box k g = some b → b ≠ blk ∧ b < w.heap.size := by
    intro k g b hbx
    obtain ⟨_, _, _, _, cur', e', _, h5, _⟩ := hb.box.at_ k g b hbx
    have hlt := (Array.getElem?_eq_some_iff.1 h5).1
    refine ⟨?_, hlt⟩
    rcases hwho with rfl | ⟨T, hT, rfl⟩
    · exact Nat.ne_of_lt hlt
    · exact fun hh => hb.box.sep k g b t T hbx hT hh.symm
  have htopne : ∀ k T, k ≠ t → E.top k = some T → T.blk ≠ blk ∧ T.blk < w.heap.size := by
    intro k T hk hT
    obtain ⟨_, _, _, _, _, _, cur', e', h7, _⟩ := hb.top.at_ k T hT
    have hlt := (Array.getElem?_eq_some_iff.1 h7).1
    refine ⟨?_, hlt⟩
    rcases hwho with rfl | ⟨T', hT', rfl⟩
    · exact Nat.ne_of_lt hlt
    · exact fun hh => hk (hb.top.inj k t T T' hT hT' hh)
  let E' : Env := { E with top := upd E.top t (some ⟨σ.c, n + m, blk, cap, sz⟩), pr := upd E.pr blk ((n + m) * sz), c := E.c + 1 }
  have hpr' : ∀ b, b ≠ blk → E'.pr b = E.pr b := fun b hb => upd_other _ _ hb
  have hprb : E'.pr blk = (n + m) * sz := upd_same _ _ _
  have hx : Ext E w E' w' := by
    refine ⟨fun b => ?_, fun b o ho => ?_, fun _ _ _ h => h, fun k T hT hg => ?_, Nat.le_succ _⟩
    · by_cases hbb : b = blk
      · subst hbb; rw [hprb]; exact hpr
      · rw [hpr' b hbb]; exact Nat.le_refl _
    · by_cases hbb : b = blk
      · subst hbb; exact hpre o ho
      · have hlt : b < w.heap.size := by
          rcases Nat.lt_or_ge b w.heap.size with hlt | hge
          · exact hlt
          · rw [hb.fresh b hge] at ho; exact absurd ho (Nat.not_lt_zero _)
        exact World.cell?_of_block (w := w) (a := ⟨b, o, none⟩) (hoth b hlt hbb)
    · by_cases hk : k = t
      · subst hk
        have hT' : upd E.top k (some ⟨σ.c, n + m, blk, cap, sz⟩) k = some T := hT
        rw [upd_same] at hT'
        injection hT' with hT'
        subst hT'
        have : σ.c < E.c := hg
        rw [hb.c] at this
        exact absurd this (Nat.lt_irrefl _)
      · have hT' : upd E.top t (some ⟨σ.c, n + m, blk, cap, sz⟩) k = some T := hT
        rw [upd_other _ _ hk] at hT'
        exact hT'
  have hlen : (olds ++ news).length = (n + m) * sz := by rw [List.length_append, hol, hnl, Nat.add_mul]
  have hcell : ∀ q, q < (n + m) * sz → w'.cell? ⟨blk, q, none⟩ = some ((olds ++ news).getD q undef) := by
    intro q hq
    have hle : (n + m) * sz ≤ cur.size := by rw [hcur]; exact Nat.mul_le_mul_right _ hnm
    rw [cell_of_row w' blk q cur e (0, 0) hrow, ← htake]
    simp only [List.getD, List.getElem?_take]
    rw [if_pos hq]
    simp [show q < cur.size by omega]
  have hrep : Rep E' w' (.slice (some ⟨blk, 0, none⟩) (n + m) cap) (.sl sz (es ++ es2) (.op t σ.c)) := by
    refine .sl blk 0 (n + m) cap sz _ _ (fun i j => (olds ++ news).getD (i * sz + j) undef) (by rw [List.length_append, hes, hes2]) hnm hmax ⟨by show σ.c < E.c + 1; rw [hb.c]; exact Nat.lt_succ_self _, fun T hT _ _ => ?_⟩ hg (fun i j hi hj => ?_) (fun i j hi hj => ?_) (fun i j hi hj => ?_)
    · have hT' : upd E.top t (some ⟨σ.c, n + m, blk, cap, sz⟩) t = some T := hT
      rw [upd_same] at hT'
      injection hT' with hT'
      subst hT'
      exact ⟨rfl, rfl, rfl, rfl⟩
    all_goals
      have hlt : i * sz + j < (n + m) * sz := by
        have := Nat.mul_le_mul_right sz (show i + 1 ≤ n + m from hi)
        rw [Nat.add_mul] at this
        omega
    · have : (olds ++ news).getD (i * sz + j) undef ∈ olds ++ news := by
        simp only [List.getD]
        rw [List.getElem?_eq_getElem (by omega), Option.getD_some]
        exact List.getElem_mem _
      exact h1o _ this
    · rw [Nat.zero_add, hprb]
      exact ⟨hcell _ hlt, hlt⟩
    · refine Rep.ext hx ?_
      show Rep E w ((olds ++ news).getD (i * sz + j) undef) (((es ++ es2).getD i .u).cells.getD j .u)
      rw [getD_append olds, getD_append es, hol, hes]
      by_cases hin : i < n
      · have : i * sz + j < n * sz := by
          have := Nat.mul_le_mul_right sz (show i + 1 ≤ n from hin)
          rw [Nat.add_mul] at this
          omega
        rw [if_pos this, if_pos hin]
        exact hro i j hin hj
      · have hge : n * sz ≤ i * sz := Nat.mul_le_mul_right sz (by omega)
        rw [if_neg (by omega), if_neg hin, show i * sz + j - n * sz = (i - n) * sz + j by rw [Nat.sub_mul]; omega]
        exact hrn (i - n) j (by omega) hj
  have hfr := fr_put h hx hd hrep
  refine ⟨E', ⟨⟨fun k g b hbx => ?_, hb.box.inj, fun k g b k' T h1 h2 => ?_⟩, ⟨fun k g q hq => ?_, fun k T hT => ?_, fun k k' T T' h1 h2 h3 => ?_⟩, fun b hge => ?_, ⟨hos.trans hb.kp.os, htape.trans hb.kp.tape, hout.trans hb.kp.output, Nat.le_trans hb.kp.size hsize, fun b hlt hm => ?_⟩, hb.ext.trans hx, ?_, fun b hlt hm => ?_, ?_, hb.wle, hb.mle⟩, hfr.1, hfr.2.1, fun q => ?_⟩
  · obtain ⟨h1, h2, h3, d', cur', e', h4, h5, h6, h7⟩ := hb.box.at_ k g b hbx
    obtain ⟨hne, hlt⟩ := hboxne k g b hbx
    refine ⟨Nat.lt_succ_of_lt h1, h2, by rw [hpr' b hne]; exact h3, d', cur', e', ?_, by rw [hoth b hlt hne]; exact h5, h6, fun j hj => ⟨(h7 j hj).1, (h7 j hj).2.ext hx⟩⟩
    cases dst <;> exact h4
  · by_cases hk : k' = t
    · subst hk
      have hT' : upd E.top k' (some ⟨σ.c, n + m, blk, cap, sz⟩) k' = some T := h2
      rw [upd_same] at hT'
      injection hT' with hT'
      subst hT'
      exact (hboxne k g b h1).1.symm
    · have hT' : upd E.top t (some ⟨σ.c, n + m, blk, cap, sz⟩) k' = some T := h2
      rw [upd_other _ _ hk] at hT'
      exact hb.box.sep k g b k' T h1 hT'
  · by_cases hk : k = t
    · subst hk
      have hq' : upd σ.tp k (some (σ.c, n + m)) k = some (g, q) := hq
      rw [upd_same] at hq'
      injection hq' with hq'
      injection hq' with h1 h2
      exact ⟨_, upd_same _ _ _, h1, h2⟩
    · have hq' : upd σ.tp t (some (σ.c, n + m)) k = some (g, q) := hq
      rw [upd_other _ _ hk] at hq'
      obtain ⟨T, h1, h2, h3⟩ := hb.top.to k g q hq'
      exact ⟨T, (upd_other _ _ hk).trans h1, h2, h3⟩
  · by_cases hk : k = t
    · subst hk
      have hT' : upd E.top k (some ⟨σ.c, n + m, blk, cap, sz⟩) k = some T := hT
      rw [upd_same] at hT'
      injection hT' with hT'
      subst hT'
      exact ⟨by show σ.c < E.c + 1; rw [hb.c]; exact Nat.lt_succ_self _, h0, hnm, hmax, hprb, hin, cur, e, hrow, hcur⟩
    · have hT' : upd E.top t (some ⟨σ.c, n + m, blk, cap, sz⟩) k = some T := hT
      rw [upd_other _ _ hk] at hT'
      obtain ⟨h1, h2, h3, h4, h5, h6, cur', e', h7, h8⟩ := hb.top.at_ k T hT'
      obtain ⟨hne, hlt⟩ := htopne k T hk hT'
      exact ⟨Nat.lt_succ_of_lt h1, h2, h3, h4, by rw [hpr' _ hne]; exact h5, h6, cur', e', by rw [hoth _ hlt hne]; exact h7, h8⟩
  · have inv : ∀ k T, E'.top k = some T → (k = t ∧ T.blk = blk) ∨ (k ≠ t ∧ E.top k = some T) := by
      intro k T hT
      by_cases hk : k = t
      · subst hk
        have hT' : upd E.top k (some ⟨σ.c, n + m, blk, cap, sz⟩) k = some T := hT
        rw [upd_same] at hT'
        injection hT' with hT'
        subst hT'
        exact .inl ⟨rfl, rfl⟩
      · have hT' : upd E.top t (some ⟨σ.c, n + m, blk, cap, sz⟩) k = some T := hT
        rw [upd_other _ _ hk] at hT'
        exact .inr ⟨hk, hT'⟩
    rcases inv k T h1 with ⟨rfl, e1⟩ | ⟨hk, o1⟩ <;> rcases inv k' T' h2 with ⟨rfl, e2⟩ | ⟨hk', o2⟩
    · rfl
    · exact absurd (h3.symm.trans e1) (htopne k' T' hk' o2).1
    · exact absurd (h3.trans e2) (htopne k T hk o1).1
    · exact hb.top.inj k k' T T' o1 o2 h3
  · have hne : b ≠ blk := by
      rintro rfl
      have := (Array.getElem?_eq_some_iff.1 hrow).1
      omega
    rw [hpr' b hne]
    exact hb.fresh b (Nat.le_trans hsize hge)
  · have hne : b ≠ blk := by
      rintro rfl
      rcases hin with hin | hin
      · omega
      · exact hm hin
    exact (hoth b (Nat.lt_of_lt_of_le hlt hb.kp.size) hne).trans (hb.kp.block b hlt hm)
  · show E.c + 1 = σ.c + 1
    rw [hb.c]
  · have hne : b ≠ blk := by
      rintro rfl
      rcases hin with hin | hin
      · omega
      · exact hm hin
    rw [hpr' b hne]
    exact hb.old b hlt hm
  · have hk := hb.glob
    exact ⟨hos.trans hk.os, htape.trans hk.tape, hout.trans hk.output, Nat.le_trans hk.size hsize, fun b hlt => (hoth b (Nat.lt_of_lt_of_le hlt hk.size) (by omega)).trans (hk.block b hlt)⟩
  · have := hfr.2.2 q
    cases dst <;> exact this
theorem run_append_in (t ty e e' : TypeId) (i : TypeInfo) (ht : P.underlying t = some (.slice e)) (hi : P.info? e = some i)
    (g sLen sCap : Nat) (cur : Array Value) (hg : w.heap[g]? = some (.cells cur e' (0, 0)))
    (a : Addr) (m c : Nat) (news : List Value) (hl : news.length = m * i.size) (hnews : ∀ j u, news[j]? = some u → w.cell? (a.add j) = some u) (h1 : ∀ u ∈ news, u.oneCell' = true)
    (hroom : sLen + m ≤ sCap) (hfit : sLen * i.size + news.length ≤ cur.size) :
    (Builtin.append_ #[t, t] ty #[.slice (some ⟨g, 0, none⟩) sLen sCap, .slice (some a) m c]).run P w =
      .ok (.slice (some ⟨g, 0, none⟩) (sLen + m) sCap) (w.setRow g (cur.toList.take (sLen * i.size) ++ news ++ cur.toList.drop (sLen * i.size + news.length)).toArray) := by
  have hf := run_firstCells_some (P := P) w i.size m a m c news hl hnews
  have hst := run_storeCells_at P g (sLen * i.size) e' news 0 cur w hg (by simpa using hfit) h1
  simp only [Nat.add_zero] at hst
  simp [Builtin.append_, run_underlying ht, sizeOf, typeInfo, hi, Builtin.lenOf, hroom, hf, Addr.add_lit, hst]
theorem run_append_none (t ty e : TypeId) (i : TypeInfo) (ht : P.underlying t = some (.slice e)) (hi : P.info? e = some i) (s : Option Addr) (n cap : Nat) (hn : n ≤ cap) (x : Option Addr) (c : Nat) :
    (Builtin.append_ #[t, t] ty #[.slice s n cap, .slice x 0 c]).run P w = .ok (.slice s n cap) w := by
  have hf : (Builtin.firstCells i.size 0 (.slice x 0 c)).run P w = .ok #[] w := by
    cases x <;> simp [Builtin.firstCells, loadCells, loadCellsFrom]
  cases s <;> simp [Builtin.append_, run_underlying ht, sizeOf, typeInfo, hi, Builtin.lenOf, hn, hf, storeCells]
/-- An append. -/
theorem Sim.append (h : Sim W E0 w0 M N σ E a w) {t ty : TypeId} {vs vx : Value} {s x r : D} {tp' : Nat → Option (Nat × Nat)} {c' : Nat} (hs : Rep E w vs s) (hx : Rep E w vx x) (ha : appD P t σ.tp σ.c s x = some (r, tp', c')) {dst : Option Tmp} (hd : ∀ t, dst = some t → t < N) :
    ∃ v w' E', (Builtin.append_ #[t, t] ty #[vs, vx]).run P w = .ok v w' ∧ Sim W E0 w0 M N (σ.app dst r tp' c') E' (a.put dst v) w' := by
  unfold appD at ha
  split at ha
  case h_2 => cases ha
  rename_i e ht
  split at ha
  case h_2 => cases ha
  rename_i sz by_ z hsz hby hz
  obtain ⟨i, hi, hisz⟩ := info_of_tsz hsz
  have hiby : i.bytes = by_ := by
    unfold tby at hby
    rw [hi] at hby
    simpa using hby
  split at ha
  case h_2 => cases ha
  rename_i es es2 hes hes2
  have form : ∀ (v : Value) (d : D) (l : List D), Rep E w v d → elems sz d = some l → (v = .slice none 0 0 ∧ d = .nil ∧ l = []) ∨ ∃ blk off n cap o, v = .slice (some ⟨blk, off, none⟩) n cap ∧ d = .sl sz l o := by
    intro v d l hr hl
    cases hr <;> simp [elems] at hl
    case nil => exact .inl ⟨rfl, rfl, hl⟩
    case sl =>
      obtain ⟨rfl, rfl⟩ := hl
      exact .inr ⟨_, _, _, _, _, rfl, rfl⟩
  split at ha
  · rename_i hemp
    injection ha with ha
    injection ha with ha1 ha2
    injection ha2 with ha2 ha3
    subst ha1 ha2 ha3
    have he2 : es2 = [] := by simpa using hemp
    subst he2
    have hx0 : ∃ xa c, vx = .slice xa 0 c := by
      rcases form vx x [] hx hes2 with ⟨h1, _, _⟩ | ⟨blk, off, n, cap, o, h1, h2⟩
      · exact ⟨none, 0, h1⟩
      · subst h1 h2
        cases hx with
        | sl _ _ _ _ _ _ _ f hn => 
          simp at hn
          subst hn
          exact ⟨_, _, rfl⟩
    obtain ⟨xa, c, rfl⟩ := hx0
    have hs0 : ∃ sa n cap, vs = .slice sa n cap ∧ n ≤ cap := by
      rcases form vs s es hs hes with ⟨h1, _, _⟩ | ⟨blk, off, n, cap, o, h1, h2⟩
      · exact ⟨none, 0, 0, h1, Nat.le_refl _⟩
      · subst h1 h2
        cases hs with
        | sl _ _ _ _ _ _ _ f hn hcap => exact ⟨_, _, _, rfl, hcap⟩
    obtain ⟨sa, n, cap, rfl, hcap⟩ := hs0
    refine ⟨_, w, E, run_append_none t ty e i ht hi sa n cap hcap xa c, ?_⟩
    have := h.q (Qs.refl h.base.fresh) hd hs
    cases dst <;> exact this
  · rename_i hne
    split at ha
    case isFalse => cases ha
    rename_i hc
    obtain ⟨h0, hzs, hzl, hbytes, h62, hmay⟩ := hc
    injection ha with ha
    injection ha with ha1 ha2
    injection ha2 with ha2 ha3
    subst ha1 ha2 ha3
    obtain ⟨i', zv, hi', hzv, rfl, hrl⟩ := zero_cells (E := E) (w := w) hz hzs
    rw [hi] at hi'
    injection hi' with hi'
    subst hi'
    have hzsz : zv.cells.size = sz := by have := hrl.1; simp at this; omega
    have hnz : es2 ≠ [] := fun hh => hne (by simp [hh])
    rcases form vx x es2 hx hes2 with ⟨_, _, h3⟩ | ⟨xb, xo, m, xc, xown, rfl, rfl⟩
    · exact absurd h3 hnz
    obtain ⟨hxl, hxc, hxm, _, hxg, news, hnl, hnews, hn1, hnr⟩ := slice_list hx h0
    have hm0 : 0 < m := by
      rw [← hxl]
      exact List.length_pos_iff.2 hnz
    have hb := h.base
    have key : ∀ (n : Nat) (olds : List Value) (v : Value) (w1 : World) (blk cap : Nat) (cur : Array Value), es.length = n → olds.length = n * sz → (∀ u ∈ olds, u.oneCell' = true) → (∀ d ∈ es, d.cells.length = sz) →
        (∀ i j, i < n → j < sz → Rep E w (olds.getD (i * sz + j) undef) ((es.getD i .u).cells.getD j .u)) → n + m ≤ cap → cap ≤ maxLen →
        w1 = w.drew.alloc (.cells cur e) → cur.size = cap * sz → cur.toList.take ((n + m) * sz) = olds ++ news →
        ∃ E', Sim W E0 w0 M N (σ.app dst (.sl sz (es ++ es2) (.op t σ.c)) (upd σ.tp t (some (σ.c, es.length + es2.length))) (σ.c + 1)) E' (a.put dst (.slice (some ⟨w.heap.size, 0, none⟩) (n + m) cap)) w1 := by
      intro n olds v w1 blk cap cur q1 q2 q3 q4 q5 q6 q7 q8 q9 q10
      subst q8
      have := h.row (w' := w.drew.alloc (.cells cur e)) (t := t) (blk := w.heap.size) (cap := cap) (n := n) (m := m) (sz := sz) (es := es) (es2 := es2) (olds := olds) (news := news) (cur := cur) (e := e) h0 rfl rfl rfl (by simp)
        (fun b hlt _ => Below.heap_alloc w.drew _ b hlt) (heap_alloc_new w.drew _) q9 q10 q6 q7 q2 hnl q1 hxl
        (fun d hd => by rcases List.mem_append.1 hd with hd | hd; exact q4 d hd; exact hxg d hd) (fun u hu => by rcases List.mem_append.1 hu with hu | hu; exact q3 u hu; exact hn1 u hu) q5 hnr
        (fun o ho => by rw [hb.fresh _ (Nat.le_refl _)] at ho; exact absurd ho (Nat.not_lt_zero _)) (by rw [hb.fresh _ (Nat.le_refl _)]; exact Nat.zero_le _) (.inl rfl) hd
      rw [q1, hxl]
      exact this
    rcases form vs s es hs hes with ⟨rfl, rfl, rfl⟩ | ⟨sb, so, n, sc, sown, rfl, rfl⟩
    · have hr := run_append_nil (P := P) w t ty e i zv ht hi hzv ⟨xb, xo, none⟩ m xc news (by rw [hisz]; exact hnl) hnews hm0 (by simp at h62; omega) (by rw [hiby]; rw [hxl] at hbytes; simp at hbytes; omega)
      have hge := grownCap_ge w m 0 e
      obtain ⟨E', hsim⟩ := key 0 [] (.slice none 0 0) _ w.heap.size (grownCap w m 0 e) (news.toArray ++ Builtin.zeroCells zv.cells (grownCap w m 0 e - m)) rfl (by simp) (by simp) (by simp) (fun i j hi => absurd hi (Nat.not_lt_zero _)) (by omega)
        (grownCap_le_maxLen w m 0 e (by unfold maxLen; simp at h62; omega)) rfl (by simp only [Array.size_append, List.size_toArray, size_zeroCells, hzsz, hnl, ← Nat.add_mul]; congr 1; omega) (by simp only [Array.toList_append, Nat.zero_add, List.nil_append, ← hnl]; exact List.take_left)
      rw [Nat.zero_add] at hsim
      exact ⟨_, _, E', hr, hsim⟩
    · obtain ⟨hsl, hsc, hsm, hown, hsg, olds, hol, holds, ho1, hor⟩ := slice_list hs h0
      have grow : sc < n + m → ∃ v w' E', (Builtin.append_ #[t, t] ty #[.slice (some ⟨sb, so, none⟩) n sc, .slice (some ⟨xb, xo, none⟩) m xc]).run P w = .ok v w' ∧
          Sim W E0 w0 M N (σ.app dst (.sl sz (es ++ es2) (.op t σ.c)) (upd σ.tp t (some (σ.c, es.length + es2.length))) (σ.c + 1)) E' (a.put dst v) w' := by
        intro hlt
        have hr := run_append_grow (P := P) w t ty e i zv ht hi hzv ⟨sb, so, none⟩ n sc olds (by rw [hisz]; exact hol) holds ⟨xb, xo, none⟩ m xc news (by rw [hisz]; exact hnl) hnews hlt (by omega) (growslice_fits hlt (by rw [hiby]; rw [hsl, hxl] at hbytes; exact hbytes))
        have hge := grownCap_ge w (n + m) sc e
        obtain ⟨E', hsim⟩ := key n olds (.slice none 0 0) _ w.heap.size (grownCap w (n + m) sc e) (olds.toArray ++ news.toArray ++ Builtin.zeroCells zv.cells (grownCap w (n + m) sc e - (n + m))) hsl hol ho1 hsg hor hge
          (grownCap_le_maxLen w (n + m) sc e (by unfold maxLen; omega)) rfl (by simp only [Array.size_append, List.size_toArray, size_zeroCells, hzsz, hol, hnl, ← Nat.add_mul]; congr 1; omega)
          (by simp only [Array.toList_append, List.append_assoc]; rw [← List.append_assoc, show (n + m) * sz = (olds ++ news).length by rw [List.length_append, hol, hnl, Nat.add_mul]]; exact List.take_left)
        exact ⟨_, _, E', hr, hsim⟩
      cases sown with
      | shut => cases hmay
      | full =>
        have : sc = n := hown
        exact grow (by omega)
      | op k g =>
        have hkt : k = t ∧ σ.tp t = some (g, es.length) := by simpa [mayApp] using hmay
        obtain ⟨rfl, htp⟩ := hkt
        by_cases hroom : n + m ≤ sc
        · obtain ⟨T, hT, hTg, hTn⟩ := hb.top.to k g es.length htp
          obtain ⟨e1, e2, e3, e4⟩ := hown.2 T hT hTg (by rw [hTn, hsl])
          subst e1 e2
          obtain ⟨t1, t2, t3, t4, t5, t6, cur, e', t7, t8⟩ := hb.top.at_ k T hT
          rw [← e3, ← e4] at t8
          have hTn' : T.n = n := by rw [hTn, hsl]
          have hfit : n * sz + news.length ≤ cur.size := by rw [hnl, t8, ← Nat.add_mul]; exact Nat.mul_le_mul_right _ hroom
          have hr := run_append_in (P := P) (w := w) k ty e e' i ht hi T.blk n sc cur t7 ⟨xb, xo, none⟩ m xc news (by rw [hisz]; exact hnl) hnews hn1 hroom (by rw [hisz]; exact hfit)
          rw [hisz] at hr
          have htk : cur.toList.take (n * sz) = olds := by
            apply List.ext_getElem?
            intro j
            by_cases hj : j < n * sz
            · have hjo : j < olds.length := by omega
              have := holds j (olds[j]) (List.getElem?_eq_getElem hjo)
              rw [add_eq, Nat.zero_add, cell_of_row w T.blk j cur e' (0, 0) t7] at this
              rw [List.getElem?_take, if_pos hj, List.getElem?_eq_getElem hjo, ← this]
              simp
            · rw [List.getElem?_eq_none (by rw [List.length_take]; omega), List.getElem?_eq_none (by omega)]
          obtain ⟨nc, hnc⟩ : ∃ nc, nc = (cur.toList.take (n * sz) ++ news ++ cur.toList.drop (n * sz + news.length)).toArray := ⟨_, rfl⟩
          rw [← hnc] at hr
          have hncl : nc.toList = olds ++ (news ++ cur.toList.drop (n * sz + news.length)) := by rw [hnc, htk]; simp
          have hncs : nc.size = cur.size := by
            rw [← Array.length_toList, hncl]
            simp only [List.length_append, List.length_drop, Array.length_toList, hol]
            omega
          have hrow := setRow_heap w T.blk cur nc e' (0, 0) t7
          obtain ⟨E', hsim⟩ := h.row (w' := w.setRow T.blk nc) (t := k) (blk := T.blk) (cap := sc) (n := n) (m := m) (sz := sz) (es := es) (es2 := es2) (olds := olds) (news := news) (cur := nc) (e := e') h0 rfl rfl rfl (by simp)
            (fun b _ hne => setRow_other w T.blk b nc hne) hrow (by rw [hncs, t8]) (by rw [hncl, ← List.append_assoc, show (n + m) * sz = (olds ++ news).length by rw [List.length_append, hol, hnl, Nat.add_mul]]; exact List.take_left) hroom hsm hol hnl hsl hxl
            (fun d hd => by rcases List.mem_append.1 hd with hd | hd; exact hsg d hd; exact hxg d hd) (fun u hu => by rcases List.mem_append.1 hu with hu | hu; exact ho1 u hu; exact hn1 u hu) hor hnr
            (fun o ho => by
              rw [t5, hTn', ← e4] at ho
              rw [cell_of_row _ T.blk o nc e' (0, 0) hrow, cell_of_row w T.blk o cur e' (0, 0) t7]
              have hlo : o < olds.length := by omega
              have h1 : nc.toList[o]? = olds[o]? := by rw [hncl, List.getElem?_append_left hlo]
              have h2 : cur.toList[o]? = olds[o]? := by rw [← htk, List.getElem?_take, if_pos ho]
              rw [← Array.getElem?_toList, ← Array.getElem?_toList, h1, h2])
            (by rw [t5, hTn', ← e4, Nat.add_mul]; omega) (.inr ⟨T, hT, rfl⟩) hd
          rw [hsl, hxl]
          exact ⟨_, _, E', hr, hsim⟩
        · exact grow (by omega)
end
end Go.Sh
