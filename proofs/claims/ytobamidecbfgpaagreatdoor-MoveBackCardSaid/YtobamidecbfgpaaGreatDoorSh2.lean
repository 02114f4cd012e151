/- The shadow's operations that only read or make: what each answers on plain data, and that the run answers so. No condition. -/
import Derived.Test.YtobamidecbfgpaaGreatDoorProg
import Derived.WalkKit
import Derived.RowKit
import Derived.Laws.Rows
import Derived.Laws.AppendOwn
import Derived.Below
import Derived.Orders
import Derived.Laws.IdiomStrings
import Derived.Laws.StructEq
import Derived.Laws.DeepStrings4
import Derived.WalkLawsBesides
/- A shadow of the run: plain data (D) and what it means that a value of a world is such data (Rep). No program in sight. No condition. -/
namespace Go.Sh
open Go.RowKit
set_option linter.unusedVariables false
/-- May a slice be appended to: no; it is as long as it can be; if it is still the last of its line (the stamp). -/
inductive Own where
  | shut
  | full
  | op (k g : Nat)
deriving DecidableEq
/-- Plain data. -/
inductive D where
  | u
  | i (k : IntKind) (n : Int)
  | b (x : Bool)
  | s (l : List UInt8)
  | nil
  | sl (sz : Nat) (es : List D) (o : Own)
  | ag (cs : List D)
  | tu (vs : List D)
  | p (k g o : Nat)
  | rp (d : D)
  | v (x : Value)
def bs (l : List UInt8) : ByteArray := ⟨l.toArray⟩
def D.cells : D → List D
  | .ag cs => cs
  | d => [d]
structure Top where
  g : Nat
  n : Nat
  blk : Nat
  cap : Nat
  sz : Nat
structure Env where
  box : Nat → Nat → Option Nat
  top : Nat → Option Top
  pr : Nat → Nat
  c : Nat
def OwnOk (E : Env) (blk off cap sz n : Nat) : Own → Prop
  | .shut => True
  | .full => cap = n
  | .op k g => g < E.c ∧ ∀ T, E.top k = some T → T.g = g → T.n = n → blk = T.blk ∧ off = 0 ∧ cap = T.cap ∧ sz = T.sz
inductive Rep (E : Env) (w : World) : Value → D → Prop
  | u (v : Value) : Rep E w v .u
  | i (k : IntKind) (n : Int) : Rep E w (.int k n) (.i k n)
  | b (x : Bool) : Rep E w (.bool x) (.b x)
  | s (l : List UInt8) : Rep E w (.string (bs l)) (.s l)
  | nil : Rep E w (.slice none 0 0) .nil
  | sl (blk off n cap sz : Nat) (es : List D) (o : Own) (f : Nat → Nat → Value) (hn : es.length = n) (hcap : n ≤ cap) (hmax : cap ≤ maxLen) (ho : OwnOk E blk off cap sz n o)
      (hg : ∀ d ∈ es, d.cells.length = sz) (h1 : ∀ i j, i < n → j < sz → (f i j).oneCell' = true)
      (hc : ∀ i j, i < n → j < sz → w.cell? ⟨blk, off + (i * sz + j), none⟩ = some (f i j) ∧ off + (i * sz + j) < E.pr blk)
      (hr : ∀ i j, i < n → j < sz → Rep E w (f i j) ((es.getD i .u).cells.getD j .u)) : Rep E w (.slice (some ⟨blk, off, none⟩) n cap) (.sl sz es o)
  | ag (vs : List Value) (cs : List D) (hl : vs.length = cs.length) (h1 : ∀ v ∈ vs, v.oneCell' = true) (hr : ∀ j, j < vs.length → Rep E w (vs.getD j undef) (cs.getD j .u)) : Rep E w (.agg vs.toArray) (.ag cs)
  | tu (vs : List Value) (cs : List D) (hl : vs.length = cs.length) (hr : ∀ j, j < vs.length → Rep E w (vs.getD j undef) (cs.getD j .u)) : Rep E w (.tuple vs.toArray) (.tu cs)
  | p (k g o blk : Nat) (h : E.box k g = some blk) : Rep E w (.pointer (some ⟨blk, o, none⟩)) (.p k g o)
  | rp (blk off : Nat) (d : D) (f : Nat → Value) (h1 : ∀ j, j < d.cells.length → (f j).oneCell' = true) (hc : ∀ j, j < d.cells.length → w.cell? ⟨blk, off + j, none⟩ = some (f j) ∧ off + j < E.pr blk)
      (hr : ∀ j, j < d.cells.length → Rep E w (f j) (d.cells.getD j .u)) : Rep E w (.pointer (some ⟨blk, off, none⟩)) (.rp d)
  | v (x : Value) : Rep E w x (.v x)
/-- What was protected stays; more may be known. -/
structure Ext (E : Env) (w : World) (E' : Env) (w' : World) : Prop where
  pr : ∀ b, E.pr b ≤ E'.pr b
  cell : ∀ b o, o < E.pr b → w'.cell? ⟨b, o, none⟩ = w.cell? ⟨b, o, none⟩
  box : ∀ k g b, E.box k g = some b → E'.box k g = some b
  top : ∀ k T, E'.top k = some T → T.g < E.c → E.top k = some T
  c : E.c ≤ E'.c
theorem Ext.refl (E : Env) (w : World) : Ext E w E w := ⟨fun _ => Nat.le_refl _, fun _ _ _ => rfl, fun _ _ _ h => h, fun _ _ h _ => h, Nat.le_refl _⟩
theorem Ext.trans {E E' E'' : Env} {w w' w'' : World} (h : Ext E w E' w') (k : Ext E' w' E'' w'') : Ext E w E'' w'' :=
  ⟨fun b => Nat.le_trans (h.pr b) (k.pr b), fun b o ho => (k.cell b o (Nat.lt_of_lt_of_le ho (h.pr b))).trans (h.cell b o ho), fun a g b hb => k.box a g b (h.box a g b hb),
   fun a T hT hg => h.top a T (k.top a T hT (Nat.lt_of_lt_of_le hg h.c)) hg, Nat.le_trans h.c k.c⟩
theorem OwnOk.ext {E E' : Env} {w w' : World} (h : Ext E w E' w') {blk off cap sz n : Nat} {o : Own} (ho : OwnOk E blk off cap sz n o) : OwnOk E' blk off cap sz n o := by
  cases o with
  | shut => trivial
  | full => exact ho
  | op k g => exact ⟨Nat.lt_of_lt_of_le ho.1 h.c, fun T hT hg hn => ho.2 T (h.top k T hT (hg ▸ ho.1)) hg hn⟩
theorem Rep.ext {E E' : Env} {w w' : World} (h : Ext E w E' w') {v : Value} {d : D} (r : Rep E w v d) : Rep E' w' v d := by
  induction r with
  | u v => exact .u v
  | i k n => exact .i k n
  | b x => exact .b x
  | s l => exact .s l
  | v x => exact .v x
  | nil => exact .nil
  | sl blk off n cap sz es o f hn hcap hmax ho hg h1 hc hr ih =>
    exact .sl blk off n cap sz es o f hn hcap hmax (ho.ext h) hg h1 (fun i j hi hj => ⟨(h.cell _ _ (hc i j hi hj).2).trans (hc i j hi hj).1, Nat.lt_of_lt_of_le (hc i j hi hj).2 (h.pr _)⟩) ih
  | ag vs cs hl h1 hr ih => exact .ag vs cs hl h1 ih
  | tu vs cs hl hr ih => exact .tu vs cs hl ih
  | p k g o blk hb => exact .p k g o blk (h.box _ _ _ hb)
  | rp blk off d f h1 hc hr ih => exact .rp blk off d f h1 (fun j hj => ⟨(h.cell _ _ (hc j hj).2).trans (hc j hj).1, Nat.lt_of_lt_of_le (hc j hj).2 (h.pr _)⟩) ih
/-- What is handed on: no label, no pointer into a box. -/
def er : D → D
  | .sl sz es _ => .sl sz (es.map er) .shut
  | .ag cs => .ag (cs.map er)
  | .tu vs => .tu (vs.map er)
  | .p _ _ _ => .u
  | .rp d => .rp (er d)
  | .u => .u
  | .i k n => .i k n
  | .b x => .b x
  | .s l => .s l
  | .nil => .nil
  | .v x => .v x
theorem er_cells (d : D) : (er d).cells = d.cells.map er := by cases d <;> simp [er, D.cells]
theorem getD_map_er (l : List D) (j : Nat) : (l.map er).getD j .u = er (l.getD j .u) := by
  simp only [List.getD, List.getElem?_map]
  cases l[j]? <;> simp [er]
def Env.iso (E : Env) : Env := ⟨fun _ _ => none, fun _ => none, E.pr, 0⟩
def isoE (pr : Nat → Nat) : Env := ⟨fun _ _ => none, fun _ => none, pr, 0⟩
theorem Rep.iso {E : Env} {w : World} {v : Value} {d : D} (r : Rep E w v d) : Rep (isoE E.pr) w v (er d) := by
  induction r with
  | u v => rw [er]; exact .u v
  | i k n => rw [er]; exact .i k n
  | b x => rw [er]; exact .b x
  | s l => rw [er]; exact .s l
  | v x => rw [er]; exact .v x
  | nil => rw [er]; exact .nil
  | sl blk off n cap sz es o f hn hcap hmax ho hg h1 hc hr ih =>
    rw [er]
    refine .sl blk off n cap sz (es.map er) .shut f (by simpa using hn) hcap hmax trivial ?_ h1 hc (fun i j hi hj => ?_)
    · intro d hd
      obtain ⟨d', hd', rfl⟩ := List.mem_map.1 hd
      rw [er_cells, List.length_map]
      exact hg d' hd'
    · rw [getD_map_er, er_cells, getD_map_er]
      exact ih i j hi hj
  | ag vs cs hl h1 hr ih => rw [er]; exact .ag vs _ (by simpa using hl) h1 (fun j hj => by rw [getD_map_er]; exact ih j hj)
  | tu vs cs hl hr ih => rw [er]; exact .tu vs _ (by simpa using hl) (fun j hj => by rw [getD_map_er]; exact ih j hj)
  | p k g o blk hb => rw [er]; exact .u _
  | rp blk off d f h1 hc hr ih =>
    rw [er]
    have hl : (er d).cells.length = d.cells.length := by rw [er_cells, List.length_map]
    exact .rp blk off (er d) f (fun j hj => h1 j (hl ▸ hj)) (fun j hj => hc j (hl ▸ hj)) (fun j hj => by rw [er_cells, getD_map_er]; exact ih j (hl ▸ hj))
theorem Rep.deiso {pr : Nat → Nat} {w : World} {v : Value} {d : D} (r : Rep (isoE pr) w v d) (E : Env) (hE : E.pr = pr) : Rep E w v d := by
  subst hE
  induction r with
  | u v => exact .u v
  | i k n => exact .i k n
  | b x => exact .b x
  | s l => exact .s l
  | v x => exact .v x
  | nil => exact .nil
  | sl blk off n cap sz es o f hn hcap hmax ho hg h1 hc hr ih =>
    refine .sl blk off n cap sz es o f hn hcap hmax ?_ hg h1 hc ih
    cases o with
    | shut => trivial
    | full => exact ho
    | op k g => exact absurd ho.1 (Nat.not_lt_zero _)
  | ag vs cs hl h1 hr ih => exact .ag vs cs hl h1 ih
  | tu vs cs hl hr ih => exact .tu vs cs hl ih
  | p k g o blk hb => cases hb
  | rp blk off d f h1 hc hr ih => exact .rp blk off d f h1 hc ih
/-- The cells of a value. -/
def D.solid : D → Bool
  | .u => false
  | .tu _ => false
  | .v _ => false
  | _ => true
theorem Rep.cellsOf {E : Env} {w : World} {v : Value} {d : D} (r : Rep E w v d) (hd : d.solid = true) :
    v.cells.size = d.cells.length ∧ (∀ j, j < d.cells.length → (v.cells.toList.getD j undef).oneCell' = true ∧ Rep E w (v.cells.toList.getD j undef) (d.cells.getD j .u)) := by
  have one : ∀ (v : Value) (d : D), Rep E w v d → v.oneCell' = true → v.cells = #[v] → d.cells = [d] → v.cells.size = d.cells.length ∧ (∀ j, j < d.cells.length → (v.cells.toList.getD j undef).oneCell' = true ∧ Rep E w (v.cells.toList.getD j undef) (d.cells.getD j .u)) := by
    intro v d r h1 hv hd
    rw [hv, hd]
    refine ⟨rfl, fun j hj => ?_⟩
    have : j = 0 := by simpa using hj
    subst this
    exact ⟨h1, r⟩
  cases r with
  | u v => cases hd
  | v x => cases hd
  | tu => cases hd
  | ag vs cs hl h1 hr =>
    refine ⟨by simpa [Value.cells, D.cells] using hl, fun j hj => ?_⟩
    have hj' : j < vs.length := by rw [hl]; exact hj
    refine ⟨?_, hr j hj'⟩
    simp only [Value.cells]
    have : vs.getD j undef ∈ vs := by simp [List.getD, List.getElem?_eq_getElem hj']
    exact h1 _ this
  | i k n => exact one _ _ (.i k n) rfl rfl rfl
  | b x => exact one _ _ (.b x) rfl rfl rfl
  | s l => exact one _ _ (.s l) rfl rfl rfl
  | nil => exact one _ _ .nil rfl rfl rfl
  | sl blk off n cap sz es o f hn hcap hmax ho hg h1 hc hr => exact one _ _ (.sl blk off n cap sz es o f hn hcap hmax ho hg h1 hc hr) rfl rfl rfl
  | p k g o blk hb => exact one _ _ (.p k g o blk hb) rfl rfl rfl
  | rp blk off d f h1 hc hr => exact one _ _ (.rp blk off d f h1 hc hr) rfl rfl rfl
end Go.Sh
namespace Go.Sh
open Go.RowKit
set_option linter.unusedVariables false
def tsz (P : Program) (t : TypeId) : Option Nat := (P.info? t).map (·.size)
def isAg : TypeDesc → Bool
  | .struct _ | .array _ _ => true
  | _ => false
def D.isAg : D → Bool
  | .ag _ => true
  | _ => false
def ofV1 : Value → D
  | .int k n => .i k n
  | .bool x => .b x
  | .string s => .s s.data.toList
  | .slice none 0 0 => .nil
  | _ => .u
def ofV : Value → D
  | .agg cs => if cs.toList.all (·.oneCell') then .ag (cs.toList.map ofV1) else .u
  | .tuple vs => if vs.isEmpty then .tu [] else .u
  | v => ofV1 v
theorem ofV1_rep (E : Env) (w : World) (v : Value) : Rep E w v (ofV1 v) := by
  cases v with
  | int k n => exact .i k n
  | bool x => exact .b x
  | string s => obtain ⟨⟨l⟩⟩ := s; exact .s l
  | slice a n c =>
    cases a with
    | some a => exact .u _
    | none =>
      cases n with
      | succ n => exact .u _
      | zero =>
        cases c with
        | succ c => exact .u _
        | zero => exact .nil
  | _ => exact .u _
theorem ofV_rep (E : Env) (w : World) (v : Value) : Rep E w v (ofV v) := by
  cases v with
  | agg cs =>
    obtain ⟨l⟩ := cs
    simp only [ofV]
    split
    · rename_i h
      refine .ag l (l.map ofV1) (by simp) (by simpa using h) (fun j hj => ?_)
      have hj' : j < l.length := hj
      simp only [List.getD, List.getElem?_map, List.getElem?_eq_getElem hj', Option.map_some, Option.getD_some]
      exact ofV1_rep E w _
    · exact .u _
  | tuple vs =>
    obtain ⟨l⟩ := vs
    simp only [ofV]
    split
    · rename_i h
      have : l = [] := by simpa using h
      subst this
      exact .tu [] [] rfl (fun j hj => absurd hj (Nat.not_lt_zero _))
    · exact .u _
  | int k n => exact ofV1_rep E w _
  | bool x => exact ofV1_rep E w _
  | string s => exact ofV1_rep E w _
  | slice a n c => exact ofV1_rep E w _
  | _ => exact .u _
/-- What the boxes hold. -/
structure BOk (B : Nat) (bx : Nat → Nat → Option D) (E : Env) (w : World) : Prop where
  at_ : ∀ k g blk, E.box k g = some blk → g < E.c ∧ B ≤ blk ∧ E.pr blk = 0 ∧ ∃ d cur e, bx k g = some d ∧ w.heap[blk]? = some (.cells cur e (0, 0)) ∧ cur.size = d.cells.length ∧
    ∀ j, j < d.cells.length → (cur.toList.getD j undef).oneCell' = true ∧ Rep E w (cur.toList.getD j undef) (d.cells.getD j .u)
  inj : ∀ k g k' g' blk, E.box k g = some blk → E.box k' g' = some blk → k = k' ∧ g = g'
  sep : ∀ k g blk k' T, E.box k g = some blk → E.top k' = some T → T.blk ≠ blk
section
variable {P : Program}
theorem add_eq (blk off n : Nat) : (⟨blk, off, none⟩ : Addr).add n = ⟨blk, off + n, none⟩ := by unfold Addr.add; split <;> simp_all
theorem info_of_tsz {t n : Nat} (h : tsz P t = some n) : ∃ i, P.info? t = some i ∧ i.size = n := by
  unfold tsz at h
  cases hi : P.info? t with
  | none => simp [hi] at h
  | some i => exact ⟨i, rfl, by simpa [hi] using h⟩
theorem run_sizeOf_tsz {t n : Nat} (h : tsz P t = some n) (w : World) : (sizeOf t).run P w = .ok n w := by
  obtain ⟨i, hi, rfl⟩ := info_of_tsz h
  simp [sizeOf, typeInfo, hi]
theorem run_isAgg {t : Nat} {d : TypeDesc} (h : P.underlying t = some d) (w : World) : (isAgg t).run P w = .ok (isAg d) w := by
  unfold isAgg
  rw [Sem.run_bind, run_underlying h w]
  cases d <;> rfl
theorem getD_range_map {α : Type} (f : Nat → α) (n j : Nat) (u : α) (h : j < n) : ((List.range n).map f).getD j u = f j := by
  simp [List.getD, h]
theorem run_load_ag {t : Nat} {d : TypeDesc} (hu : P.underlying t = some d) (hd : isAg d = true) {n : Nat} (hs : tsz P t = some n) (w : World) (blk o : Nat) (f : Nat → Value)
    (hc : ∀ j, j < n → w.cell? ⟨blk, o + j, none⟩ = some (f j)) : (loadVar t ⟨blk, o, none⟩).run P w = .ok (.agg ((List.range n).map f).toArray) w := by
  have hl := run_loadCells_list (P := P) w ⟨blk, o, none⟩ ((List.range n).map f) (fun j v hj => by
    have hjn : j < n := by
      have := (List.getElem?_eq_some_iff.1 hj).1
      simpa using this
    rw [add_eq, hc j hjn]
    simp [hjn] at hj
    rw [hj])
  simp only [List.length_map, List.length_range] at hl
  simp [loadVar, Sem.run_bind, run_isAgg hu, hd, run_sizeOf_tsz hs, hl]
theorem run_load_one {t : Nat} {d : TypeDesc} (hu : P.underlying t = some d) (hd : isAg d = false) (w : World) (a : Addr) (v : Value)
    (hc : w.cell? a = some v) : (loadVar t a).run P w = .ok v w := by
  simp [loadVar, Sem.run_bind, run_isAgg hu, hd, load, Sem.run, hc]
/-- A part of data: so many cells from a place on. -/
def getc (d : D) (o n : Nat) (ag : Bool) : Option D :=
  if ag then (if d.isAg = true ∧ o = 0 ∧ d.cells.length = n then some d else if o + n ≤ d.cells.length then some (.ag ((d.cells.drop o).take n)) else none)
  else (if o < d.cells.length then some (d.cells.getD o .u) else none)
theorem cells_ag (cs : List D) : (D.ag cs).cells = cs := rfl
theorem len_part (l : List D) (o n : Nat) (h : o + n ≤ l.length) : (D.ag ((l.drop o).take n)).cells.length = n := by rw [cells_ag, List.length_take, List.length_drop]; omega
theorem getD_drop_take {α : Type} (l : List α) (o n j : Nat) (u : α) (h : j < n) : ((l.drop o).take n).getD j u = l.getD (o + j) u := by
  simp [List.getD, h, List.getElem?_drop]
theorem rep_cells {E : Env} {w : World} {d : D} {f : Nat → Value} (h : d.isAg = true) (h1 : ∀ j, j < d.cells.length → (f j).oneCell' = true) (hr : ∀ j, j < d.cells.length → Rep E w (f j) (d.cells.getD j .u)) :
    Rep E w (.agg ((List.range d.cells.length).map f).toArray) d := by
  cases d with
  | ag cs =>
    refine .ag _ cs (by simp [D.cells]) (fun v hv => ?_) (fun j hj => ?_)
    · obtain ⟨j, hj, rfl⟩ := List.mem_map.1 hv
      exact h1 j (by simpa using hj)
    · have hj' : j < cs.length := by simpa [D.cells] using hj
      rw [cells_ag, getD_range_map f _ j _ hj']
      exact hr j hj'
  | _ => cases h
/-- A load of such a part. -/
theorem load_part {E : Env} {w : World} {t n : Nat} {td : TypeDesc} (hu : P.underlying t = some td) (hs : tsz P t = some n) (blk o : Nat) (d r : D) (f : Nat → Value)
    (hc : ∀ j, j < d.cells.length → w.cell? ⟨blk, j, none⟩ = some (f j)) (h1 : ∀ j, j < d.cells.length → (f j).oneCell' = true) (hr : ∀ j, j < d.cells.length → Rep E w (f j) (d.cells.getD j .u))
    (hg : getc d o n (isAg td) = some r) : ∃ v, (loadVar t ⟨blk, o, none⟩).run P w = .ok v w ∧ Rep E w v r := by
  unfold getc at hg
  cases ha : isAg td with
  | true =>
    rw [ha] at hg
    simp only [if_true] at hg
    split at hg
    · rename_i h
      obtain ⟨h2, h3, h4⟩ := h
      injection hg with hg
      subst hg
      subst h3
      refine ⟨_, run_load_ag hu ha hs w blk 0 f (fun j hj => by rw [Nat.zero_add]; exact hc j (by omega)), ?_⟩
      rw [← h4]
      exact rep_cells h2 h1 hr
    · split at hg
      · rename_i h
        injection hg with hg
        subst hg
        refine ⟨_, run_load_ag hu ha hs w blk o (fun j => f (o + j)) (fun j hj => hc _ (by omega)), ?_⟩
        have hl := len_part d.cells o n h
        have := rep_cells (E := E) (w := w) (d := .ag ((d.cells.drop o).take n)) (f := fun j => f (o + j)) rfl (fun j hj => h1 _ (by omega)) (fun j hj => by
          rw [hl] at hj
          rw [cells_ag, getD_drop_take _ _ _ _ _ hj]
          exact hr _ (by omega))
        rwa [hl] at this
      · cases hg
  | false =>
    rw [ha] at hg
    simp only [Bool.false_eq_true, if_false] at hg
    split at hg
    · rename_i h
      injection hg with hg
      subst hg
      exact ⟨f o, run_load_one hu ha w _ _ (hc o h), hr o h⟩
    · cases hg
theorem box_cells {B : Nat} {bx : Nat → Nat → Option D} {E : Env} {w : World} (hB : BOk B bx E w) {k g blk : Nat} (h : E.box k g = some blk) :
    ∃ d, ∃ f : Nat → Value, bx k g = some d ∧ (∀ j, j < d.cells.length → w.cell? ⟨blk, j, none⟩ = some (f j)) ∧ (∀ j, j < d.cells.length → (f j).oneCell' = true) ∧ ∀ j, j < d.cells.length → Rep E w (f j) (d.cells.getD j .u) := by
  obtain ⟨_, _, _, d, cur, e, h1, h2, h3, h4⟩ := hB.at_ k g blk h
  refine ⟨d, fun j => cur.toList.getD j undef, h1, fun j hj => ?_, fun j hj => (h4 j hj).1, fun j hj => (h4 j hj).2⟩
  rw [cell_of_row w blk j cur e (0, 0) h2]
  have : j < cur.size := by omega
  simp [List.getD, this]
/-- What a load answers. -/
def loadD (P : Program) (bx : Nat → Nat → Option D) (t : TypeId) (x : D) : Option D :=
  match P.underlying t, tsz P t, x with
  | some td, some n, .rp d => if d.isAg = isAg td ∧ d.cells.length = n then some d else none
  | some td, some n, .p k g o => (bx k g).bind fun d => getc d o n (isAg td)
  | _, _, _ => none
theorem load_sound {B : Nat} {bx : Nat → Nat → Option D} {E : Env} {w : World} (hB : BOk B bx E w) {t : TypeId} {x r : D} {vx : Value} (hx : Rep E w vx x) (h : loadD P bx t x = some r) :
    ∃ v, (Instr.loadAt t vx).run P w = .ok v w ∧ Rep E w v r := by
  unfold loadD at h
  split at h
  · rename_i td n d hu hs
    split at h
    · rename_i h2
      injection h with h
      subst h
      cases hx with
      | rp blk off _ f h1 hc hr =>
        simp only [Instr.loadAt, Instr.sureAddr, Sem.run_bind, Sem.run_pure, Result.andThen_ok]
        cases ha : isAg td with
        | true =>
          rw [← h2.2] at hs
          refine ⟨_, run_load_ag hu ha hs w blk off f (fun j hj => (hc j hj).1), ?_⟩
          exact rep_cells (by rw [h2.1, ha]) h1 hr
        | false =>
          rw [ha] at h2
          have hc1 : d.cells = [d] := by cases d <;> first | rfl | (cases h2.1)
          have h0 := hc 0 (by rw [hc1]; exact Nat.zero_lt_one)
          have hr0 := hr 0 (by rw [hc1]; exact Nat.zero_lt_one)
          rw [hc1] at hr0
          exact ⟨f 0, run_load_one hu ha w _ _ h0.1, hr0⟩
    · cases h
  · rename_i td n k g o hu hs
    cases hx with
    | p _ _ _ blk hb =>
      obtain ⟨d, f, h1, h2, h3, h4⟩ := box_cells hB hb
      rw [h1] at h
      simp only [Option.bind_some] at h
      simp only [Instr.loadAt, Instr.sureAddr, Sem.run_bind, Sem.run_pure, Result.andThen_ok]
      exact load_part hu hs blk o d r f h2 h3 h4 h
  · cases h
/-- A field's place. -/
def fieldD (P : Program) (s : TypeId) (x : D) (f : Nat) : Option D :=
  match P.underlying s with
  | some (.struct fs) => match fs[f]? with
    | some fl => match P.underlying fl.type, tsz P fl.type, x with
      | some td, some (n + 1), .p k g o => some (.p k g (o + fl.offset))
      | some td, some (n + 1), .rp d => (if isAg td then (if fl.offset + (n + 1) ≤ d.cells.length then some (.ag ((d.cells.drop fl.offset).take (n + 1))) else none) else (if fl.offset < d.cells.length ∧ (d.cells.getD fl.offset .u).isAg = false then some (d.cells.getD fl.offset .u) else none)).map .rp
      | _, _, _ => none
    | none => none
  | _ => none
theorem field_sound {E : Env} {w : World} {s f : Nat} {x r : D} {vx : Value} (hx : Rep E w vx x) (h : fieldD P s x f = some r) : ∃ v, (Instr.fieldAt s vx f).run P w = .ok v w ∧ Rep E w v r := by
  unfold fieldD at h
  split at h
  case h_2 => cases h
  rename_i fs hu
  split at h
  case h_2 => cases h
  rename_i fl hf
  have run : ∀ blk off n, tsz P fl.type = some (n + 1) → (Instr.fieldAt s (.pointer (some ⟨blk, off, none⟩)) f).run P w = .ok (.pointer (some ⟨blk, off + fl.offset, none⟩)) w := by
    intro blk off n hs
    simp [Instr.fieldAt, run_underlying hu, hf, Instr.sureAddr, fieldPlace, run_sizeOf_tsz hs, add_eq]
  split at h
  · rename_i td n k g o hut hs
    injection h with h
    subst h
    cases hx with
    | p _ _ _ blk hb => exact ⟨_, run blk o n hs, .p k g _ blk hb⟩
  · rename_i td n d hut hs
    cases hx with
    | rp blk off _ fv h1 hc hr =>
      refine ⟨_, run blk off n hs, ?_⟩
      split at h
      · rename_i ha
        split at h
        · rename_i hle
          injection h with h
          subst h
          have hl := len_part d.cells fl.offset (n + 1) hle
          refine .rp blk _ _ (fun j => fv (fl.offset + j)) (fun j hj => h1 _ (by omega)) (fun j hj => ?_) (fun j hj => ?_)
          · have := hc (fl.offset + j) (by omega)
            rw [Nat.add_assoc]
            exact this
          · rw [hl] at hj
            rw [cells_ag, getD_drop_take _ _ _ _ _ hj]
            exact hr _ (by omega)
        · cases h
      · split at h
        · rename_i hlt
          injection h with h
          subst h
          have hc1 : (d.cells.getD fl.offset .u).cells = [d.cells.getD fl.offset .u] := by
            generalize d.cells.getD fl.offset .u = q at hlt
            cases q <;> first | rfl | (cases hlt.2)
          refine .rp blk _ _ (fun j => fv (fl.offset + j)) (fun j hj => h1 _ ?_) (fun j hj => ?_) (fun j hj => ?_)
          all_goals
            rw [hc1] at hj
            have : j = 0 := by simpa using hj
            subst this
          · exact hlt.1
          · have := hc (fl.offset + 0) (by omega)
            rw [Nat.add_assoc]
            exact this
          · rw [hc1]
            exact hr _ hlt.1
        · cases h
  · cases h
/-- An element's place. -/
def indexD (P : Program) (t : TypeId) (x i : D) : Option D :=
  match P.underlying t, x, i with
  | some (.slice e), .sl sz es _, .i _ n => if 0 ≤ n ∧ n < es.length ∧ tsz P e = some sz then some (.rp (es.getD n.toNat .u)) else none
  | _, _, _ => none
theorem index_sound {E : Env} {w : World} {t : Nat} {x i r : D} {vx vi : Value} (hx : Rep E w vx x) (hi : Rep E w vi i) (h : indexD P t x i = some r) : ∃ v, (Instr.indexAt t vx vi).run P w = .ok v w ∧ Rep E w v r := by
  unfold indexD at h
  split at h
  · rename_i e sz es o k n hu
    split at h
    · rename_i hb
      injection h with h
      subst h
      obtain ⟨h0, h2, h3⟩ := hb
      cases hi
      cases hx with
      | sl blk off len cap _ _ _ f hn hcap hmax ho hg h1 hc hr =>
        obtain ⟨j, rfl⟩ := Int.eq_ofNat_of_zero_le h0
        have hj : j < len := by omega
        have hjl : j < es.length := by omega
        have hcl : (es.getD j .u).cells.length = sz := hg _ (by simp [List.getD, List.getElem?_eq_getElem hjl])
        refine ⟨.pointer (some ⟨blk, off + j * sz, none⟩), ?_, ?_⟩
        · simp [Instr.indexAt, asIntOf, run_underlying hu, run_sizeOf_tsz h3, add_eq, hj]
        · simp only [Int.toNat_natCast]
          refine .rp blk _ _ (fun q => f j q) (fun q hq => h1 j q hj (hcl ▸ hq)) (fun q hq => ?_) (fun q hq => hr j q hj (hcl ▸ hq))
          have := hc j q hj (hcl ▸ hq)
          rw [Nat.add_assoc]
          exact this
    · cases h
  · cases h
end
end Go.Sh
