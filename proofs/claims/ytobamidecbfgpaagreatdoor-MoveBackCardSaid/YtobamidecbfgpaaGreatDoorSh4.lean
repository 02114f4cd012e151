/- The shadow's literals (structs, slices): what each answers on plain data, and that the run answers so. No condition. -/
import Derived.Test.YtobamidecbfgpaaGreatDoorSh2
import Derived.Laws.BytesArg
/- The shadow's operations on numbers, strings, structs and literals: what each answers on plain data, and that the run answers so. No condition. -/
namespace Go.Sh
open Go.RowKit
set_option linter.unusedVariables false
section
variable {P : Program}
theorem bs_toList (l : List UInt8) : (bs l).toList = l := by rw [ByteArray.toList_eq]; rfl
theorem bs_size (l : List UInt8) : (bs l).size = l.length := rfl
theorem bs_append (a b : List UInt8) : bs a ++ bs b = bs (a ++ b) := by
  apply ByteArray.ext
  show (bs a ++ bs b).data = _
  simp [bs]
/-- Equality of structs of plain parts. -/
def eqF (P : Program) : List Field → List D → List D → Option Bool
  | [], _, _ => some true
  | f :: fs, cs, ds =>
    if f.name = "_" then none else
    match P.underlying f.type, cs[f.offset]?, ds[f.offset]? with
    | some (.int _), some (.i k a), some (.i k' b) => if k = k' then (if a = b then eqF P fs cs ds else some false) else none
    | some .bool, some (.b a), some (.b b) => if a = b then eqF P fs cs ds else some false
    | some .string, some (.s a), some (.s b) => if a = b then eqF P fs cs ds else some false
    | _, _, _ => none
def eqT (P : Program) (t : TypeId) : Option (List Field) :=
  match P.underlying t with
  | some (.struct fs) => if P.stoodInHeld t = false ∧ P.eqGuardType P.depth t = false then some fs.toList else none
  | _ => none
def binD (P : Program) (op : BinOp) (t : TypeId) (x y : D) : Option D :=
  match x, y with
  | .i k a, .i k' b => if k = k' then (match op with
    | .add => some (.i k (k.wrap (a + b)))
    | .sub => some (.i k (k.wrap (a - b)))
    | .mul => some (.i k (k.wrap (a * b)))
    | .quo => if b = 0 then none else some (.i k (k.wrap (a.tdiv b)))
    | .rem => if b = 0 then none else some (.i k (a.tmod b))
    | .eql => some (.b (a == b))
    | .neq => some (.b (a != b))
    | .lss => some (.b (decide (a < b)))
    | .leq => some (.b (decide (a ≤ b)))
    | .gtr => some (.b (decide (b < a)))
    | .geq => some (.b (decide (b ≤ a)))
    | _ => none) else none
  | .s a, .s b => (match op with
    | .add => if a.length + b.length ≤ 4611686018427387904 then some (.s (a ++ b)) else none
    | .eql => some (.b (a == b))
    | .neq => some (.b (!(a == b)))
    | .lss => some (.b (Op.bytesLess a b))
    | .leq => some (.b (Op.bytesLess a b || a == b))
    | .gtr => some (.b (!(Op.bytesLess a b || a == b)))
    | .geq => some (.b (!Op.bytesLess a b))
    | _ => none)
  | .b a, .b b => (match op, P.underlying t with
    | .eql, some .bool => some (.b (a == b))
    | .neq, some .bool => some (.b (!(a == b)))
    | _, _ => none)
  | .ag cs, .ag ds => (match op, eqT P t with
    | .eql, some fs => (eqF P fs cs ds).map .b
    | .neq, some fs => (eqF P fs cs ds).map (fun x => .b (!x))
    | _, _ => none)
  | _, _ => none
theorem run_part_one {t : Nat} {d : TypeDesc} (hu : P.underlying t = some d) (hd : isAg d = false) (w : World) (cs : Array Value) (off : Nat) (v : Value) (h : cs[off]? = some v) : (part t cs off).run P w = .ok v w := by
  simp [part, run_isAgg hu, hd, h]
theorem eqF_sound {E : Env} {w : World} (vs us : List Value) (cs ds : List D) (hv : vs.length = cs.length) (hu : us.length = ds.length) (hvr : ∀ j, j < vs.length → Rep E w (vs.getD j undef) (cs.getD j .u))
    (hur : ∀ j, j < us.length → Rep E w (us.getD j undef) (ds.getD j .u)) (n : Nat) : ∀ (fs : List Field) (r : Bool), eqF P fs cs ds = some r → (Op.eqFields (n + 1) vs.toArray us.toArray fs).run P w = .ok r w
  | [], r, h => by
    simp [eqF] at h
    subst h
    simp [Op.eqFields]
  | f :: fs, r, h => by
    unfold eqF at h
    split at h
    · cases h
    · rename_i hname
      have get : ∀ (ws : List Value) (es : List D), ws.length = es.length → (∀ j, j < ws.length → Rep E w (ws.getD j undef) (es.getD j .u)) → ∀ x, es[f.offset]? = some x → ∃ v, ws.toArray[f.offset]? = some v ∧ Rep E w v x := by
        intro ws es hl hr x hx
        have hlt : f.offset < es.length := (List.getElem?_eq_some_iff.1 hx).1
        have := hr f.offset (by omega)
        refine ⟨ws[f.offset]'(by omega), by simp [List.getElem?_eq_getElem (show f.offset < ws.length by omega)], ?_⟩
        simpa [List.getD, hx, List.getElem?_eq_getElem (show f.offset < ws.length by omega)] using this
      have step : ∀ (d : TypeDesc) (a b : Value) (q : Bool), P.underlying f.type = some d → isAg d = false → vs.toArray[f.offset]? = some a → us.toArray[f.offset]? = some b → (Op.equalIn (n + 1) f.type a b).run P w = .ok q w →
          (Op.eqFields (n + 1) vs.toArray us.toArray (f :: fs)).run P w = if q then (Op.eqFields (n + 1) vs.toArray us.toArray fs).run P w else .ok false w := by
        intro d a b q hu hd ha hb hq
        simp only [Op.eqFields, if_pos (show f.name ≠ "_" from hname), Sem.run_bind, run_part_one hu hd w _ _ _ ha, run_part_one hu hd w _ _ _ hb, Result.andThen_ok, hq]
        cases q <;> simp
      split at h
      · rename_i ki k a k' b ht hx hy
        obtain ⟨va, h1, r1⟩ := get vs cs hv hvr _ hx
        obtain ⟨vb, h2, r2⟩ := get us ds hu hur _ hy
        cases r1
        cases r2
        split at h
        case isFalse => cases h
        rename_i hk
        subst hk
        rw [step _ _ _ (a == b) ht rfl h1 h2 (run_equalIn_int w n f.type k ki a b ht)]
        split at h
        · rename_i hab
          subst hab
          simp only [beq_self_eq_true, if_true]
          exact eqF_sound vs us cs ds hv hu hvr hur n fs r h
        · rename_i hab
          injection h with h
          subst h
          simp [hab]
      · rename_i a b ht hx hy
        obtain ⟨va, h1, r1⟩ := get vs cs hv hvr _ hx
        obtain ⟨vb, h2, r2⟩ := get us ds hu hur _ hy
        cases r1
        cases r2
        rw [step _ _ _ (a == b) ht rfl h1 h2 (run_equalIn_bool' w n f.type a b ht)]
        split at h
        · rename_i hab
          subst hab
          simp only [beq_self_eq_true, if_true]
          exact eqF_sound vs us cs ds hv hu hvr hur n fs r h
        · rename_i hab
          injection h with h
          subst h
          simp [hab]
      · rename_i a b ht hx hy
        obtain ⟨va, h1, r1⟩ := get vs cs hv hvr _ hx
        obtain ⟨vb, h2, r2⟩ := get us ds hu hur _ hy
        cases r1
        cases r2
        have he := run_equalIn_string (P := P) w n f.type (bs a) (bs b) ht
        rw [bs_toList, bs_toList] at he
        rw [step _ _ _ _ ht rfl h1 h2 he]
        split at h
        · rename_i hab
          subst hab
          simp only [beq_self_eq_true, if_true]
          exact eqF_sound vs us cs ds hv hu hvr hur n fs r h
        · rename_i hab
          injection h with h
          subst h
          simp [hab]
      · cases h
theorem bin_sound {E : Env} {w : World} {op : BinOp} {t : Nat} {x y r : D} {vx vy : Value} (ox oy : Operand) (hx : Rep E w vx x) (hy : Rep E w vy y) (h : binD P op t x y = some r) :
    ∃ v, (do eqGuard op t ox oy vx vy; binOp op t vx vy).run P w = .ok v w ∧ Rep E w v r := by
  unfold binD at h
  split at h
  · rename_i k a k' b
    cases hx
    cases hy
    split at h
    · rename_i hk
      subst hk
      split at h <;> first
        | (injection h with h; subst h; refine ⟨_, ?_, by constructor⟩; simp [go_sem, Op.intArith, eqGuard_at_int]; done)
        | (split at h; (cases h); (rename_i hb; injection h with h; subst h; refine ⟨_, ?_, by constructor⟩; simp [go_sem, Op.intDiv, eqGuard_at_int, hb]))
        | cases h
    · cases h
  · rename_i a b
    cases hx
    cases hy
    split at h
    · split at h
      · rename_i hl
        injection h with h
        subst h
        refine ⟨.string (bs a ++ bs b), ?_, ?_⟩
        · have hm : ¬ (((bs a).size + (bs b).size : Nat) : Int) > IntKind.i64.max := by rw [bs_size, bs_size, IntKind.max_i64]; omega
          simp only [Sem.run_bind, eqGuard_at_string, Sem.run_pure, Result.andThen_ok, binOp, Op.stringOp]
          rw [if_neg hm]
          rfl
        · rw [bs_append]; exact .s _
      · cases h
    all_goals first
      | cases h; done
      | (injection h with h; subst h; refine ⟨_, ?_, .b _⟩; simp only [Sem.run_bind, eqGuard_at_string, Sem.run_pure, Result.andThen_ok, binOp, Op.stringOp, bs_toList])
  · rename_i a b
    cases hx
    cases hy
    split at h
    · rename_i hu
      injection h with h
      subst h
      refine ⟨_, ?_, .b _⟩
      simp only [Sem.run_bind, eqGuard_at_bool, Sem.run_pure, Result.andThen_ok, binOp, Op.equal, Op.maxDepth]
      rw [run_equalIn_bool' w _ t a b hu]
      rfl
    · rename_i hu
      injection h with h
      subst h
      refine ⟨_, ?_, .b _⟩
      simp only [Sem.run_bind, eqGuard_at_bool, Sem.run_pure, Result.andThen_ok, binOp, Op.equal, Op.maxDepth]
      rw [run_equalIn_bool' w _ t a b hu]
      rfl
    · cases h
  · rename_i cs ds
    cases hx with
    | ag vs _ hl h1 hr =>
    cases hy with
    | ag us _ hl' h1' hr' =>
    have key : ∀ fs q, eqT P t = some fs → eqF P fs cs ds = some q → P.eqGuardType P.depth t = false ∧ (Op.equalIn 10000 t (.agg vs.toArray) (.agg us.toArray)).run P w = .ok q w := by
      intro fs q hT hF
      unfold eqT at hT
      split at hT
      · rename_i fl hu
        split at hT
        · rename_i hp
          injection hT with hT
          subst hT
          have hfe : P.fieldsOf t = fl := by simp [Program.fieldsOf, hu]
          refine ⟨hp.2, ?_⟩
          rw [run_equalIn_struct (P := P) w 9999 t _ _ (by rw [hu, hfe]) hp.1, hfe]
          exact eqF_sound vs us cs ds hl hl' hr hr' 9998 _ q hF
        · cases hT
      · cases hT
    split at h
    · rename_i fs hT
      cases hF : eqF P fs cs ds with
      | none => simp [hF] at h
      | some q =>
        rw [hF] at h
        injection h with h
        subst h
        obtain ⟨hg, he⟩ := key fs q hT hF
        refine ⟨_, ?_, .b _⟩
        rw [Sem.run_bind, run_eqGuard_agg w _ _ _ _ _ _ hg, Result.andThen_ok, run_eql_struct, he]
        rfl
    · rename_i fs hT
      cases hF : eqF P fs cs ds with
      | none => simp [hF] at h
      | some q =>
        rw [hF] at h
        injection h with h
        subst h
        obtain ⟨hg, he⟩ := key fs q hT hF
        refine ⟨_, ?_, .b _⟩
        rw [Sem.run_bind, run_eqGuard_agg w _ _ _ _ _ _ hg, Result.andThen_ok, run_neq_struct, he]
        rfl
    · cases h
  · cases h
end
end Go.Sh
namespace Go.Sh
open Go.RowKit
set_option linter.unusedVariables false
def upd {α : Type} (f : Nat → α) (k : Nat) (x : α) : Nat → α := fun j => if j = k then x else f j
theorem upd_same {α : Type} (f : Nat → α) (k : Nat) (x : α) : upd f k x k = x := by simp [upd]
theorem upd_other {α : Type} (f : Nat → α) {k j : Nat} (x : α) (h : j ≠ k) : upd f k x j = f j := by simp [upd, h]
/-- A step that writes nothing that was there. -/
structure Qs (E : Env) (w : World) (E' : Env) (w' : World) : Prop where
  ext : Ext E w E' w'
  below : Below w.heap.size w w'
  box : E'.box = E.box
  top : E'.top = E.top
  c : E'.c = E.c
  old : ∀ b, b < w.heap.size → E'.pr b = E.pr b
  new : ∀ b, w'.heap.size ≤ b → E'.pr b = 0
def Fresh (E : Env) (w : World) : Prop := ∀ b, w.heap.size ≤ b → E.pr b = 0
theorem Qs.refl {E : Env} {w : World} (h : Fresh E w) : Qs E w E w := ⟨Ext.refl E w, Below.refl _ w, rfl, rfl, rfl, fun _ _ => rfl, h⟩
theorem below_ext {E E' : Env} {w w' : World} (h : Fresh E w) (hb : Below w.heap.size w w') (hbox : E'.box = E.box) (htop : E'.top = E.top) (hc : E'.c = E.c) (hold : ∀ b, b < w.heap.size → E'.pr b = E.pr b)
    : Ext E w E' w' :=
  ⟨fun b => by
    rcases Nat.lt_or_ge b w.heap.size with hlt | hge
    · rw [hold b hlt]; exact Nat.le_refl _
    · rw [h b hge]; exact Nat.zero_le _,
   fun b o ho => by
    rcases Nat.lt_or_ge b w.heap.size with hlt | hge
    · exact hb.cell (p := ⟨b, o, none⟩) hlt
    · rw [h b hge] at ho; exact absurd ho (Nat.not_lt_zero _),
   fun k g b h => by rw [hbox]; exact h, fun k T h _ => by rw [htop] at h; exact h, by rw [hc]; exact Nat.le_refl _⟩
theorem below_alloc_drew (w : World) (o : Obj) : Below w.heap.size w (w.drew.alloc o) := (Below.refl _ w).drew.alloc (Nat.le_refl _) o
theorem below_alloc (w : World) (o : Obj) : Below w.heap.size w (w.alloc o) := (Below.refl _ w).alloc (Nat.le_refl _) o
/-- A new block. -/
theorem Qs.block {E : Env} {w w' : World} (h : Fresh E w) (hb : Below w.heap.size w w') (hs : w'.heap.size = w.heap.size + 1) (m : Nat) : Qs E w { E with pr := upd E.pr w.heap.size m } w' :=
  ⟨below_ext h hb rfl rfl rfl (fun b hb => upd_other _ _ (Nat.ne_of_lt hb)), hb, rfl, rfl, rfl, fun b hb => upd_other _ _ (Nat.ne_of_lt hb), fun b hb => by
    show upd E.pr w.heap.size m b = 0
    rw [upd_other _ _ (by omega)]
    exact h b (by omega)⟩
section
variable {P : Program}
def RepL (E : Env) (w : World) (vs : List Value) (ds : List D) : Prop := vs.length = ds.length ∧ ∀ j, j < ds.length → (vs.getD j undef).oneCell' = true ∧ Rep E w (vs.getD j undef) (ds.getD j .u)
theorem fold_set (off : Nat) : ∀ (l : List Value) (s : Nat) (cells : Array Value), ((l.zipIdx s).foldl (fun cs x => cs.setIfInBounds (off + x.2) x.1) cells).size = cells.size ∧
    ∀ x, ((l.zipIdx s).foldl (fun cs x => cs.setIfInBounds (off + x.2) x.1) cells).toList.getD x undef = if off + s ≤ x ∧ x < off + s + l.length ∧ x < cells.size then l.getD (x - (off + s)) undef else cells.toList.getD x undef
  | [], s, cells => by
    refine ⟨rfl, fun x => ?_⟩
    rw [if_neg (by simp; omega)]
    rfl
  | v :: l, s, cells => by
    obtain ⟨h1, h2⟩ := fold_set off l (s + 1) (cells.setIfInBounds (off + s) v)
    rw [List.zipIdx_cons, List.foldl_cons]
    refine ⟨by rw [h1]; simp, fun x => ?_⟩
    rw [h2 x]
    simp only [Array.size_setIfInBounds, List.length_cons]
    by_cases hx : off + s = x
    · subst hx
      rw [if_neg (by omega)]
      by_cases hlt : off + s < cells.size
      · rw [if_pos (by omega)]
        simp [List.getD, hlt]
      · rw [if_neg (by omega)]
        simp [List.getD, hlt]
    · by_cases hin : off + (s + 1) ≤ x ∧ x < off + (s + 1) + l.length ∧ x < cells.size
      · rw [if_pos hin, if_pos (by omega), show x - (off + s) = (x - (off + (s + 1))) + 1 by omega]
        rfl
      · rw [if_neg hin, if_neg (by omega)]
        simp [List.getD, hx]
def splice {α : Type} (cs : List α) (off : Nat) (ds : List α) : List α := cs.take off ++ (ds ++ cs.drop (off + ds.length))
theorem splice_len {α : Type} (cs : List α) (off : Nat) (ds : List α) (h : off + ds.length ≤ cs.length) : (splice cs off ds).length = cs.length := by simp [splice]; omega
theorem splice_getD {α : Type} (u : α) (cs : List α) (off : Nat) (ds : List α) (h : off + ds.length ≤ cs.length) (x : Nat) : (splice cs off ds).getD x u = if off ≤ x ∧ x < off + ds.length then ds.getD (x - off) u else cs.getD x u := by
  have hl : (cs.take off).length = off := by rw [List.length_take]; omega
  simp only [splice, List.getD]
  by_cases h1 : x < off
  · rw [if_neg (by omega), List.getElem?_append_left (by omega), List.getElem?_take, if_pos h1]
  · rw [List.getElem?_append_right (by omega), hl]
    by_cases h2 : x < off + ds.length
    · rw [if_pos (by omega), List.getElem?_append_left (by omega)]
    · rw [if_neg (by omega), List.getElem?_append_right (by omega), List.getElem?_drop]
      congr 2
      omega
def fillD (place : Nat → Option (Nat × Nat)) (cs : List D) : List (Nat × D) → Option (List D)
  | [] => some cs
  | (i, d) :: r => match place i with
    | none => none
    | some (off, size) => if d.solid = true ∧ d.cells.length = size ∧ off + size ≤ cs.length then fillD place (splice cs off d.cells) r else none
inductive RepP (E : Env) (w : World) : List (Nat × Value) → List (Nat × D) → Prop
  | nil : RepP E w [] []
  | cons {i : Nat} {v : Value} {d : D} {vs : List (Nat × Value)} {ds : List (Nat × D)} (h : Rep E w v d) (t : RepP E w vs ds) : RepP E w ((i, v) :: vs) ((i, d) :: ds)
theorem fill_sound {E : Env} {w : World} (place : Nat → Option (Nat × Nat)) : ∀ (vs : List (Nat × Value)) (ds : List (Nat × D)) (cells : Array Value) (cs r : List D), RepP E w vs ds → RepL E w cells.toList cs → fillD place cs ds = some r →
    ∃ cells', Instr.fill place cells vs = some cells' ∧ RepL E w cells'.toList r
  | [], _, cells, cs, r, hp, hc, h => by
    cases hp
    simp [fillD] at h
    subst h
    exact ⟨cells, rfl, hc⟩
  | (i, v) :: vs, _, cells, cs, r, hp, hc, h => by
    cases hp with
    | @cons _ _ d _ ds hv ht =>
    unfold fillD at h
    split at h
    · cases h
    · rename_i off size hpl
      split at h
      · rename_i hcond
        obtain ⟨hs, hsz, hle⟩ := hcond
        obtain ⟨hvl, hvr⟩ := hv.cellsOf hs
        have hcl : cells.size = cs.length := by simpa using hc.1
        have hfs := fold_set off v.cells.toList 0 cells
        have hsize : v.cells.toList.length = d.cells.length := by simpa using hvl
        have hrl : RepL E w ((v.cells.toList.zipIdx 0).foldl (fun cs x => cs.setIfInBounds (off + x.2) x.1) cells).toList (splice cs off d.cells) := by
          have hsl := splice_len cs off d.cells (by omega)
          refine ⟨by simp only [Array.length_toList]; rw [hfs.1, hsl, hcl], fun j hj => ?_⟩
          rw [hfs.2 j, splice_getD _ cs off d.cells (by omega) j]
          simp only [Nat.add_zero]
          by_cases hin : off ≤ j ∧ j < off + d.cells.length
          · rw [if_pos (by omega), if_pos hin]
            exact hvr _ (by omega)
          · rw [if_neg (by omega), if_neg hin]
            exact hc.2 j (by omega)
        obtain ⟨cells', h1, h2⟩ := fill_sound place vs ds _ _ r ht hrl h
        refine ⟨cells', ?_, h2⟩
        unfold Instr.fill
        rw [hpl]
        simp only
        rw [if_neg (by simp; omega)]
        rw [← h1]
        congr 1
        rw [← Array.foldl_toList, Array.toList_zipIdx]
      · cases h
def zeroD (P : Program) (t : TypeId) : Option D := ((P.info? t).bind (·.zero)).map ofV
def tplaces (P : Program) (t : TypeId) : Option (List (Nat × Nat)) :=
  match P.underlying t with
  | some (.struct fields) => fields.toList.mapM (fun f => (P.info? f.type).map fun i => (f.offset, i.size))
  | _ => none
def buildD (P : Program) (t : TypeId) (parts : List (Nat × D)) : Option D :=
  match zeroD P t, tplaces P t with
  | some z, some pl => if z.solid = true then (fillD (fun i => pl[i]?) z.cells parts).map .ag else none
  | _, _ => none
theorem repL_ag {E : Env} {w : World} {cells : Array Value} {cs : List D} (h : RepL E w cells.toList cs) : Rep E w (.agg cells) (.ag cs) := by
  obtain ⟨l⟩ := cells
  refine .ag l cs h.1 (fun v hv => ?_) (fun j hj => (h.2 j (h.1 ▸ hj)).2)
  obtain ⟨j, hj, rfl⟩ := List.getElem_of_mem hv
  have := (h.2 j (by have := h.1; simp at this; omega)).1
  simpa [List.getD, hj] using this
theorem zero_cells {E : Env} {w : World} {t : Nat} {z : D} (h : zeroD P t = some z) (hs : z.solid = true) : ∃ i v, P.info? t = some i ∧ i.zero = some v ∧ z = ofV v ∧ RepL E w v.cells.toList z.cells := by
  unfold zeroD at h
  cases hi : P.info? t with
  | none => simp [hi] at h
  | some i =>
    cases hz : i.zero with
    | none => simp [hi, hz] at h
    | some v =>
      simp [hi, hz] at h
      subst h
      have := (ofV_rep E w v).cellsOf hs
      exact ⟨i, v, rfl, hz, rfl, by simpa using this.1, fun j hj => this.2 j hj⟩
theorem build_sound {E : Env} {w : World} {t : Nat} {parts : Array (Nat × Value)} {ds : List (Nat × D)} {r : D} (hp : RepP E w parts.toList ds) (h : buildD P t ds = some r) : ∃ v, (Instr.build t parts).run P w = .ok v w ∧ Rep E w v r := by
  unfold buildD at h
  split at h
  · rename_i z pl hz hpl
    split at h
    · rename_i hs
      obtain ⟨i, v, hi, hv, hzv, hrl⟩ := zero_cells (E := E) (w := w) hz hs
      cases hf : fillD (fun i => pl[i]?) z.cells ds with
      | none => simp [hf] at h
      | some cs =>
        simp [hf] at h
        subst h
        obtain ⟨cells', h1, h2⟩ := fill_sound _ _ _ _ _ _ hp hrl hf
        refine ⟨.agg cells', run_build w t parts cells' ?_, repL_ag h2⟩
        unfold tplaces at hpl
        split at hpl
        · rename_i fields hu
          unfold Program.built
          rw [hi, hu]
          simp only [hv, hpl]
          rw [← h1]
          congr 1
          funext x
          simp
        · cases hpl
    · cases h
  · cases h
/-- A slice's literal. -/
def litD (P : Program) (t : TypeId) (n : Nat) (parts : List (Nat × D)) : Option D :=
  match P.underlying t with
  | some (.slice e) => match tsz P e, zeroD P e with
    | some sz, some z => if 0 < sz ∧ n * sz ≤ 16777216 ∧ z.solid = true ∧ z.cells.length = sz ∧ parts.map (·.1) = List.range n ∧ (∀ p ∈ parts, p.2.solid = true ∧ p.2.cells.length = sz) then some (.sl sz (parts.map (·.2)) .full) else none
    | _, _ => none
  | _ => none
theorem flat_len (es : List D) (sz : Nat) (h : ∀ d ∈ es, d.cells.length = sz) : (es.flatMap D.cells).length = es.length * sz := by
  induction es with
  | nil => simp
  | cons d es ih =>
    rw [List.flatMap_cons, List.length_append, ih (fun d hd => h d (List.mem_cons_of_mem _ hd)), h d List.mem_cons_self, List.length_cons, Nat.add_mul]
    omega
theorem flat_getD : ∀ (es : List D) (sz : Nat) (h : ∀ d ∈ es, d.cells.length = sz) (i j : Nat), i < es.length → j < sz → (es.flatMap D.cells).getD (i * sz + j) .u = (es.getD i .u).cells.getD j .u
  | [], sz, h, i, j, hi, hj => by simp at hi
  | d :: es, sz, h, 0, j, hi, hj => by
    have := h d List.mem_cons_self
    rw [List.flatMap_cons, Nat.zero_mul, Nat.zero_add]
    simp only [List.getD]
    rw [List.getElem?_append_left (by omega)]
    rfl
  | d :: es, sz, h, i + 1, j, hi, hj => by
    have h0 := h d List.mem_cons_self
    have ih := flat_getD es sz (fun d hd => h d (List.mem_cons_of_mem _ hd)) i j (by simpa using hi) hj
    rw [List.flatMap_cons]
    simp only [List.getD] at ih ⊢
    rw [List.getElem?_append_right (by rw [h0, Nat.add_mul]; omega), h0, show (i + 1) * sz + j - sz = i * sz + j by rw [Nat.add_mul]; omega, ih]
    rfl
theorem fillD_seq (sz : Nat) : ∀ (parts : List (Nat × D)) (i0 : Nat) (pre rest : List D), parts.map (·.1) = List.range' i0 parts.length → (∀ p ∈ parts, p.2.solid = true ∧ p.2.cells.length = sz) → pre.length = i0 * sz → rest.length = parts.length * sz →
    fillD (fun i => some (i * sz, sz)) (pre ++ rest) parts = some (pre ++ (parts.map (·.2)).flatMap D.cells)
  | [], i0, pre, rest, _, _, _, hr => by
    have : rest = [] := List.eq_nil_of_length_eq_zero (by simpa using hr)
    subst this
    simp [fillD]
  | (i, d) :: parts, i0, pre, rest, hm, hs, hp, hr => by
    simp only [List.map_cons, List.length_cons, List.range'_succ, List.cons.injEq] at hm
    obtain ⟨rfl, hm⟩ := hm
    have h0 := hs (i, d) List.mem_cons_self
    simp only [List.length_cons] at hr
    have hr' : rest.length = sz + parts.length * sz := by rw [hr, Nat.add_mul]; omega
    unfold fillD
    simp only
    rw [if_pos ⟨h0.1, h0.2, by rw [List.length_append]; omega⟩]
    have hsp : splice (pre ++ rest) (i * sz) d.cells = (pre ++ d.cells) ++ rest.drop sz := by
      simp only [splice]
      rw [← hp, List.take_left, List.append_assoc]
      congr 2
      rw [h0.2, List.drop_append]
      simp
    rw [hsp, fillD_seq sz parts (i + 1) (pre ++ d.cells) (rest.drop sz) hm (fun p hp => hs p (List.mem_cons_of_mem _ hp)) (by rw [List.length_append, hp, h0.2, Nat.add_mul]; omega) (by rw [List.length_drop]; omega)]
    simp
theorem lit_sound {E : Env} {w : World} (hF : Fresh E w) {t n : Nat} {parts : Array (Nat × Value)} {ds : List (Nat × D)} {r : D} (hp : RepP E w parts.toList ds) (h : litD P t n ds = some r) :
    ∃ v E' w', (Instr.buildSlice t n parts).run P w = .ok v w' ∧ Rep E' w' v r ∧ Qs E w E' w' := by
  unfold litD at h
  split at h
  case h_2 => cases h
  rename_i e hu
  split at h
  case h_2 => cases h
  rename_i sz z hsz hz
  split at h
  case isFalse => cases h
  rename_i hc
  obtain ⟨h0, h24, hzs, hzl, hm, hall⟩ := hc
  injection h with h
  subst h
  obtain ⟨i, zv, hi, hzv, rfl, hrl⟩ := zero_cells (E := E) (w := w) hz hzs
  have hzsz : zv.cells.size = sz := by have := hrl.1; simp at this; omega
  have hdl : ds.length = n := by have := congrArg List.length hm; simpa using this
  have hz0 : RepL E w ((Array.range (n * sz)).map (zv.cells[· % zv.cells.size]!)).toList ((List.range (n * sz)).map fun x => (ofV zv).cells.getD (x % sz) .u) := by
    refine ⟨by simp, fun j hj => ?_⟩
    have hj' : j < n * sz := by simpa using hj
    have hmod : j % sz < sz := Nat.mod_lt _ h0
    have hv := hrl.2 (j % sz) (by omega)
    have e1 : (((Array.range (n * sz)).map (zv.cells[· % zv.cells.size]!)).toList.getD j undef) = zv.cells.toList.getD (j % sz) undef := by
      simp only [List.getD, Array.toList_map, Array.toList_range, List.getElem?_map, List.getElem?_range hj', Option.map_some, Option.getD_some, hzsz]
      rw [getElem!_pos _ _ (by omega)]
      simp [show j % sz < zv.cells.size by omega]
    rw [e1, getD_range_map _ _ _ _ hj']
    exact hv
  have hfd := fillD_seq sz ds 0 [] ((List.range (n * sz)).map fun x => (ofV zv).cells.getD (x % sz) .u) (by rw [hm, hdl, List.range_eq_range']) hall (by simp) (by simp [hdl])
  simp only [List.nil_append] at hfd
  obtain ⟨cells', h1, h2⟩ := fill_sound (fun i => some (i * sz, sz)) _ _ _ _ _ hp hz0 hfd
  have hes : ∀ d ∈ ds.map (·.2), d.cells.length = sz := by
    intro d hd
    obtain ⟨p, hp', rfl⟩ := List.mem_map.1 hd
    exact (hall p hp').2
  have hfl := flat_len _ sz hes
  have hcs : cells'.size = n * sz := by have := h2.1; simp only [Array.length_toList] at this; rw [this, hfl, List.length_map, hdl]
  have hq := Qs.block hF (below_alloc w (.cells cells' e)) (by simp) (n * sz)
  refine ⟨.slice (some ⟨w.heap.size, 0, none⟩) n n, _, _, ?_, ?_, hq⟩
  · have hzr : (zeroValue e).run P w = .ok zv w := by simp [zeroValue, typeInfo, hi, hzv]
    simp only [Instr.buildSlice, Sem.run_bind, run_underlying hu, Result.andThen_ok, run_sizeOf_tsz hsz, Sem.run_ite]
    rw [if_neg (by omega)]
    by_cases hz1 : n * sz = 0
    · rw [if_pos hz1]
      have e0 : (Array.map (fun x => (#[] : Array Value)[x % (#[] : Array Value).size]!) (Array.range (n * sz))) = Array.map (fun x => zv.cells[x % zv.cells.size]!) (Array.range (n * sz)) := by simp [hz1]
      simp only [Sem.run_pure, Result.andThen_ok]
      rw [e0, h1]
      simp [newRow]
    · rw [if_neg hz1, hzr]
      simp only [Sem.run_pure, Result.andThen_ok]
      rw [h1]
      simp [newRow]
  · refine .sl w.heap.size 0 n n sz _ .full (fun i j => cells'.toList.getD (i * sz + j) undef) (by rw [List.length_map, hdl]) (Nat.le_refl _) ?_ rfl hes (fun i j hi hj => ?_) (fun i j hi hj => ?_) (fun i j hi hj => ?_)
    · unfold maxLen
      have := Nat.le_mul_of_pos_right n h0
      omega
    all_goals
      have hlt : i * sz + j < n * sz := by
        have := Nat.mul_le_mul_right sz (show i + 1 ≤ n from hi)
        rw [Nat.add_mul] at this
        omega
      have hh := h2.2 (i * sz + j) (by rw [hfl, List.length_map, hdl]; exact hlt)
    · exact hh.1
    · refine ⟨?_, ?_⟩
      · rw [cell_of_row _ _ _ _ _ _ (heap_alloc_new w (.cells cells' e)), Nat.zero_add]
        simp [List.getD, show i * sz + j < cells'.size by omega]
      · show 0 + (i * sz + j) < upd E.pr w.heap.size (n * sz) w.heap.size
        rw [upd_same]
        omega
    · rw [← flat_getD _ sz hes i j (by rw [List.length_map, hdl]; exact hi) hj]
      exact hh.2.ext hq.ext
end
end Go.Sh
