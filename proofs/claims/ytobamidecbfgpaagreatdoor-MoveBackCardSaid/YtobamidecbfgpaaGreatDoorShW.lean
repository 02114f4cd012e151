/- Rules to walk a function over the shadow by simp. No condition. -/
import Derived.Test.YtobamidecbfgpaaGreatDoorShT
namespace Go.Sh
open Go.RowKit
set_option linter.unusedVariables false
section
variable {P : Program} {W : World} {thr : FuncId → Bool} {all : Array Oper} {dst : Option Tmp} {ty : TypeId} {pos : String} {aft : Array Edge} {os : List Oper} {σ : St} {Q : St → Prop}
theorem RW_nil : RW P W thr all [] σ Q = Q σ := rfl
theorem RW_plain {o : Oper} (hp : plain o.op = true) (hg : o.guard = none) : RW P W thr all (o :: os) σ Q = ((opD P σ.ev σ.bx o.op).isSome = true ∧ RW P W thr all os (σ.put o.dst ((opD P σ.ev σ.bx o.op).getD .u)) Q) := by
  have hw : wantD all σ.fr o = some true := by unfold wantD; rw [hg]
  apply propext
  constructor
  · rintro ⟨σ', h1, h2⟩
    unfold stepR at h1
    rw [hw] at h1
    obtain ⟨d, hd, rfl⟩ := (bodyR_plain hp).1 h1
    rw [hd]
    exact ⟨rfl, h2⟩
  · rintro ⟨h1, h2⟩
    obtain ⟨d, hd⟩ := Option.isSome_iff_exists.1 h1
    rw [hd] at h2
    refine ⟨σ.put o.dst d, ?_, h2⟩
    unfold stepR
    rw [hw]
    exact (bodyR_plain hp).2 ⟨d, hd, rfl⟩
theorem RW_move {x : Operand} : RW P W thr all (⟨dst, .move x, ty, pos, aft, none⟩ :: os) σ Q = RW P W thr all os (σ.put dst (σ.ev x)) Q := by
  rw [RW_plain rfl rfl]; simp [opD]
theorem RW_assign {x : Operand} : RW P W thr all (⟨dst, .assign x, ty, pos, aft, none⟩ :: os) σ Q = RW P W thr all os (σ.put dst (σ.ev x)) Q := by
  rw [RW_plain rfl rfl]; simp [opD]
def okD (x : Option D) : Prop := x.isSome = true
theorem okD_some (d : D) : okD (some d) = True := by simp [okD]
def gD (x : Option D) : D := x.getD .u
theorem gD_some (d : D) : gD (some d) = d := rfl
def pickD : D → D → D → Option D
  | .b t, a, b => some (if t then a else b)
  | _, _, _ => none
def notD : D → Option D
  | .b t => some (.b (!t))
  | _ => none
def negD : D → Option D
  | .i k n => some (.i k (k.wrap (0 - n)))
  | _ => none
def extD : D → Nat → Option D
  | .tu vs, i => vs[i]?
  | _, _ => none
def maxD : D → D → Option D
  | .i k a, .i _ b => some (.i k (if b > a then b else a))
  | _, _ => none
def minD : D → D → Option D
  | .i k a, .i _ b => some (.i k (if b < a then b else a))
  | _, _ => none
theorem pick_b (t : Bool) (a b : D) : pickD (.b t) a b = some (if t then a else b) := rfl
theorem not_b (t : Bool) : notD (.b t) = some (.b (!t)) := rfl
theorem neg_i (k : IntKind) (n : Int) : negD (.i k n) = some (.i k (k.wrap (0 - n))) := rfl
theorem ext_tu (vs : List D) (i : Nat) : extD (.tu vs) i = vs[i]? := rfl
theorem max_i (k k' : IntKind) (a b : Int) : maxD (.i k a) (.i k' b) = some (.i k (if b > a then b else a)) := rfl
theorem min_i (k k' : IntKind) (a b : Int) : minD (.i k a) (.i k' b) = some (.i k (if b < a then b else a)) := rfl
theorem RW_pick {c a b : Operand} : RW P W thr all (⟨dst, .pick c a b, ty, pos, aft, none⟩ :: os) σ Q = (okD (pickD (σ.ev c) (σ.ev a) (σ.ev b)) ∧ RW P W thr all os (σ.put dst (gD (pickD (σ.ev c) (σ.ev a) (σ.ev b)))) Q) := by
  rw [RW_plain rfl rfl]; simp only [opD, okD, gD, pickD]; cases σ.ev c <;> rfl
theorem RW_not {t : TypeId} {x : Operand} : RW P W thr all (⟨dst, .unOp .not t x, ty, pos, aft, none⟩ :: os) σ Q = (okD (notD (σ.ev x)) ∧ RW P W thr all os (σ.put dst (gD (notD (σ.ev x)))) Q) := by
  rw [RW_plain rfl rfl]; simp only [opD, okD, gD, notD]; cases σ.ev x <;> rfl
theorem RW_neg {t : TypeId} {x : Operand} : RW P W thr all (⟨dst, .unOp .neg t x, ty, pos, aft, none⟩ :: os) σ Q = (okD (negD (σ.ev x)) ∧ RW P W thr all os (σ.put dst (gD (negD (σ.ev x)))) Q) := by
  rw [RW_plain rfl rfl]; simp only [opD, okD, gD, negD]; cases σ.ev x <;> rfl
theorem RW_extract {i : Nat} {x : Operand} : RW P W thr all (⟨dst, .extract x i, ty, pos, aft, none⟩ :: os) σ Q = (okD (extD (σ.ev x) i) ∧ RW P W thr all os (σ.put dst (gD (extD (σ.ev x) i))) Q) := by
  rw [RW_plain rfl rfl]; simp only [opD, okD, gD, extD]; cases σ.ev x <;> rfl
theorem RW_max {tys : Array TypeId} {x y : Operand} : RW P W thr all (⟨dst, .call { callee := .builtin .max, args := #[x, y], argTypes := tys }, ty, pos, aft, none⟩ :: os) σ Q = (okD (maxD (σ.ev x) (σ.ev y)) ∧ RW P W thr all os (σ.put dst (gD (maxD (σ.ev x) (σ.ev y)))) Q) := by
  rw [RW_plain rfl rfl]; simp only [opD, okD, gD, maxD]; cases σ.ev x <;> cases σ.ev y <;> rfl
theorem RW_min {tys : Array TypeId} {x y : Operand} : RW P W thr all (⟨dst, .call { callee := .builtin .min, args := #[x, y], argTypes := tys }, ty, pos, aft, none⟩ :: os) σ Q = (okD (minD (σ.ev x) (σ.ev y)) ∧ RW P W thr all os (σ.put dst (gD (minD (σ.ev x) (σ.ev y)))) Q) := by
  rw [RW_plain rfl rfl]; simp only [opD, okD, gD, minD]; cases σ.ev x <;> cases σ.ev y <;> rfl
theorem RW_build {t : TypeId} {parts : Array (Nat × Operand)} : RW P W thr all (⟨dst, .build t parts, ty, pos, aft, none⟩ :: os) σ Q = (okD (buildD P t (parts.toList.map fun p => (p.1, σ.ev p.2))) ∧ RW P W thr all os (σ.put dst (gD (buildD P t (parts.toList.map fun p => (p.1, σ.ev p.2))))) Q) := RW_plain rfl rfl
theorem RW_lit {t : TypeId} {n : Nat} {parts : Array (Nat × Operand)} : RW P W thr all (⟨dst, .buildSlice t n parts, ty, pos, aft, none⟩ :: os) σ Q = (okD (litD P t n (parts.toList.map fun p => (p.1, σ.ev p.2))) ∧ RW P W thr all os (σ.put dst (gD (litD P t n (parts.toList.map fun p => (p.1, σ.ev p.2))))) Q) := RW_plain rfl rfl
theorem RW_load {t : TypeId} {x : Operand} : RW P W thr all (⟨dst, .load t x, ty, pos, aft, none⟩ :: os) σ Q = (okD (loadD P σ.bx t (σ.ev x)) ∧ RW P W thr all os (σ.put dst (gD (loadD P σ.bx t (σ.ev x)))) Q) := RW_plain rfl rfl
theorem RW_bin {op : BinOp} {t t' : TypeId} {x y : Operand} : RW P W thr all (⟨dst, .binOp op t x y t', ty, pos, aft, none⟩ :: os) σ Q = (okD (binD P op t (σ.ev x) (σ.ev y)) ∧ RW P W thr all os (σ.put dst (gD (binD P op t (σ.ev x) (σ.ev y)))) Q) := RW_plain rfl rfl
theorem RW_conv {s t : TypeId} {x : Operand} : RW P W thr all (⟨dst, .convert s t x, ty, pos, aft, none⟩ :: os) σ Q = (okD (convD P s t (σ.ev x)) ∧ RW P W thr all os (σ.put dst (gD (convD P s t (σ.ev x)))) Q) := RW_plain rfl rfl
theorem RW_slice {t : TypeId} {x : Operand} {lo hi : Option Operand} : RW P W thr all (⟨dst, .slice t x lo hi none, ty, pos, aft, none⟩ :: os) σ Q = (okD (sliceD P t (σ.ev x) (lo.map σ.ev) (hi.map σ.ev)) ∧ RW P W thr all os (σ.put dst (gD (sliceD P t (σ.ev x) (lo.map σ.ev) (hi.map σ.ev)))) Q) := RW_plain rfl rfl
theorem RW_field {s f : Nat} {x : Operand} : RW P W thr all (⟨dst, .fieldAddr s x f, ty, pos, aft, none⟩ :: os) σ Q = (okD (fieldD P s (σ.ev x) f) ∧ RW P W thr all os (σ.put dst (gD (fieldD P s (σ.ev x) f))) Q) := RW_plain rfl rfl
theorem RW_index {t : Nat} {x i : Operand} : RW P W thr all (⟨dst, .indexAddr t x i, ty, pos, aft, none⟩ :: os) σ Q = (okD (indexD P t (σ.ev x) (σ.ev i)) ∧ RW P W thr all os (σ.put dst (gD (indexD P t (σ.ev x) (σ.ev i)))) Q) := RW_plain rfl rfl
theorem RW_strAt {t : Nat} {x i : Operand} : RW P W thr all (⟨dst, .index t x i, ty, pos, aft, none⟩ :: os) σ Q = (okD (strAtD P t (σ.ev x) (σ.ev i)) ∧ RW P W thr all os (σ.put dst (gD (strAtD P t (σ.ev x) (σ.ev i)))) Q) := RW_plain rfl rfl
def lenOk (P : Program) (t : TypeId) (x : D) : Option D := if lenT P t x = true then lenD x else none
theorem RW_len {t : TypeId} {x : Operand} : RW P W thr all (⟨dst, .call { callee := .builtin .len, args := #[x], argTypes := #[t] }, ty, pos, aft, none⟩ :: os) σ Q = (okD (lenOk P t (σ.ev x)) ∧ RW P W thr all os (σ.put dst (gD (lenOk P t (σ.ev x)))) Q) := RW_plain rfl rfl
theorem RW_body {o : Oper} (hg : o.guard = none) : RW P W thr all (o :: os) σ Q = ∃ σ', bodyR P W thr o σ σ' ∧ RW P W thr all os σ' Q := by
  have hw : wantD all σ.fr o = some true := by unfold wantD; rw [hg]
  show (∃ σ', stepR P W thr all o σ σ' ∧ _) = _
  unfold stepR
  rw [hw]
theorem RW_alloc {t k : Nat} : RW P W thr all (⟨some k, .alloc t, ty, pos, aft, none⟩ :: os) σ Q = (okD (zeroD P t) ∧ (gD (zeroD P t)).solid = true ∧ RW P W thr all os (σ.newBox k (gD (zeroD P t))) Q) := by
  rw [RW_body rfl]
  apply propext
  constructor
  · rintro ⟨σ', ⟨k', z, hk, hz, hs, rfl⟩, h⟩
    injection hk with hk
    subst hk
    rw [hz]
    exact ⟨rfl, hs, h⟩
  · rintro ⟨h1, h2, h3⟩
    obtain ⟨z, hz⟩ := Option.isSome_iff_exists.1 h1
    rw [hz] at h2 h3
    exact ⟨_, ⟨k, z, rfl, hz, h2, rfl⟩, h3⟩
theorem RW_box {t k : Nat} {x : Operand} : RW P W thr all (⟨some k, .box t x, ty, pos, aft, none⟩ :: os) σ Q = ((σ.ev x).solid = true ∧ RW P W thr all os (σ.newBox k (σ.ev x)) Q) := by
  rw [RW_body rfl]
  apply propext
  constructor
  · rintro ⟨σ', ⟨k', hk, hs, rfl⟩, h⟩
    injection hk with hk
    subst hk
    exact ⟨hs, h⟩
  · rintro ⟨h2, h3⟩
    exact ⟨_, ⟨k, rfl, h2, rfl⟩, h3⟩
def StoreW (P : Program) (W : World) (thr : FuncId → Bool) (all : Array Oper) (t : TypeId) (a x : D) (os : List Oper) (σ : St) (Q : St → Prop) : Prop :=
  ∃ k g p c, a = .p k g p ∧ x.solid = true ∧ σ.bx k g = some c ∧ p + x.cells.length ≤ c.cells.length ∧ tsz P t = some x.cells.length ∧ RW P W thr all os (σ.setBox k g (setc c p x)) Q
theorem RW_store {t : Nat} {a x : Operand} : RW P W thr all (⟨none, .store t a x, ty, pos, aft, none⟩ :: os) σ Q = StoreW P W thr all t (σ.ev a) (σ.ev x) os σ Q := by
  rw [RW_body rfl]
  apply propext
  constructor
  · rintro ⟨σ', ⟨k, g, p, c, he, _, h1, h2, h3, h4, rfl⟩, h⟩
    exact ⟨k, g, p, c, he, h1, h2, h3, h4, h⟩
  · rintro ⟨k, g, p, c, he, h1, h2, h3, h4, h5⟩
    exact ⟨_, ⟨k, g, p, c, he, rfl, h1, h2, h3, h4, rfl⟩, h5⟩
theorem store_p {t : Nat} {x : D} {k g p : Nat} : StoreW P W thr all t (.p k g p) x os σ Q = (okD (σ.bx k g) ∧ x.solid = true ∧ p + x.cells.length ≤ (gD (σ.bx k g)).cells.length ∧ tsz P t = some x.cells.length ∧ RW P W thr all os (σ.setBox k g (setc (gD (σ.bx k g)) p x)) Q) := by
  apply propext
  constructor
  · rintro ⟨k', g', p', c, he, h1, h2, h3, h4, h⟩
    injection he with e1 e2 e3
    subst e1 e2 e3
    rw [h2]
    exact ⟨rfl, h1, h3, h4, h⟩
  · rintro ⟨h1, h2, h3, h4, h5⟩
    obtain ⟨z, hz⟩ := Option.isSome_iff_exists.1 h1
    rw [hz] at h3 h5
    exact ⟨k, g, p, z, rfl, h2, hz, h3, h4, h5⟩
theorem RW_append {t : Nat} {s x : Operand} {r : D} {tp' : Nat → Option (Nat × Nat)} {c' : Nat} (h : appD P t σ.tp σ.c (σ.ev s) (σ.ev x) = some (r, tp', c')) (hk : RW P W thr all os (σ.app dst r tp' c') Q) : RW P W thr all (⟨dst, .call { callee := .builtin .append, args := #[s, x], argTypes := #[t, t] }, ty, pos, aft, none⟩ :: os) σ Q := by
  rw [RW_body rfl]
  exact ⟨_, ⟨s, x, t, r, tp', c', rfl, rfl, h, rfl⟩, hk⟩
theorem RW_call {f : FuncId} {args : Array Operand} {tys : Array TypeId} {ds : List D} {d : D} (ht : thr f = false) (h : Fc P W f ds d) (ha : (args.toList.map fun x => er (σ.ev x)) = ds) (hk : RW P W thr all os (σ.put dst d) Q) :
    RW P W thr all (⟨dst, .call { callee := .value (.func f), args := args, argTypes := tys }, ty, pos, aft, none⟩ :: os) σ Q := by
  subst ha
  rw [RW_body rfl]
  exact ⟨_, .inl ⟨ht, d, h, rfl⟩, hk⟩
theorem RW_callT {f : FuncId} {args : Array Operand} {tys : Array TypeId} {ds : List D} {d : D} {tp' : Nat → Option (Nat × Nat)} {c' : Nat} (ht : thr f = true) (h : Ft P W f ds σ.tp σ.c d tp' c') (ha : (args.toList.map fun x => erp (σ.ev x)) = ds) (hk : RW P W thr all os (σ.app dst d tp' c') Q) :
    RW P W thr all (⟨dst, .call { callee := .value (.func f), args := args, argTypes := tys }, ty, pos, aft, none⟩ :: os) σ Q := by
  subst ha
  rw [RW_body rfl]
  exact ⟨_, .inr ⟨ht, d, tp', c', h, rfl⟩, hk⟩
/-- A call, its arguments laid open. -/
def CallW (P : Program) (W : World) (thr : FuncId → Bool) (all : Array Oper) (f : FuncId) (ds : List D) (dst : Option Tmp) (os : List Oper) (σ : St) (Q : St → Prop) : Prop := ∃ d, Fc P W f ds d ∧ RW P W thr all os (σ.put dst d) Q
def CallT (P : Program) (W : World) (thr : FuncId → Bool) (all : Array Oper) (f : FuncId) (ds : List D) (dst : Option Tmp) (os : List Oper) (σ : St) (Q : St → Prop) : Prop := ∃ d tp' c', Ft P W f ds σ.tp σ.c d tp' c' ∧ RW P W thr all os (σ.app dst d tp' c') Q
def AppW (P : Program) (W : World) (thr : FuncId → Bool) (all : Array Oper) (t : TypeId) (s x : D) (dst : Option Tmp) (os : List Oper) (σ : St) (Q : St → Prop) : Prop := ∃ r tp' c', appD P t σ.tp σ.c s x = some (r, tp', c') ∧ RW P W thr all os (σ.app dst r tp' c') Q
theorem RW_cW {f : FuncId} {args : Array Operand} {tys : Array TypeId} (ht : thr f = false) : RW P W thr all (⟨dst, .call { callee := .value (.func f), args := args, argTypes := tys }, ty, pos, aft, none⟩ :: os) σ Q = CallW P W thr all f (args.toList.map fun x => er (σ.ev x)) dst os σ Q := by
  rw [RW_body rfl]
  apply propext
  constructor
  · rintro ⟨σ', ⟨_, d, h, rfl⟩ | ⟨h, _⟩, h2⟩
    · exact ⟨d, h, h2⟩
    · rw [ht] at h; cases h
  · rintro ⟨d, h, h2⟩
    exact ⟨_, .inl ⟨ht, d, h, rfl⟩, h2⟩
theorem RW_cT {f : FuncId} {args : Array Operand} {tys : Array TypeId} (ht : thr f = true) : RW P W thr all (⟨dst, .call { callee := .value (.func f), args := args, argTypes := tys }, ty, pos, aft, none⟩ :: os) σ Q = CallT P W thr all f (args.toList.map fun x => erp (σ.ev x)) dst os σ Q := by
  rw [RW_body rfl]
  apply propext
  constructor
  · rintro ⟨σ', ⟨h, _⟩ | ⟨_, d, tp', c', h, rfl⟩, h2⟩
    · rw [ht] at h; cases h
    · exact ⟨d, tp', c', h, h2⟩
  · rintro ⟨d, tp', c', h, h2⟩
    exact ⟨_, .inr ⟨ht, d, tp', c', h, rfl⟩, h2⟩
theorem RW_aW {t : Nat} {s x : Operand} : RW P W thr all (⟨dst, .call { callee := .builtin .append, args := #[s, x], argTypes := #[t, t] }, ty, pos, aft, none⟩ :: os) σ Q = AppW P W thr all t (σ.ev s) (σ.ev x) dst os σ Q := by
  rw [RW_body rfl]
  apply propext
  constructor
  · rintro ⟨σ', ⟨s', x', t', r, tp', c', h1, h2, h3, rfl⟩, h⟩
    injection h1 with h1 h1'
    injection h1' with h1' _
    injection h2 with h2 _
    subst h1 h1' h2
    exact ⟨r, tp', c', h3, h⟩
  · rintro ⟨r, tp', c', h3, h⟩
    exact ⟨_, ⟨s, x, t, r, tp', c', rfl, rfl, h3, rfl⟩, h⟩
theorem CallW_use {f : FuncId} {ds : List D} {d : D} (h : Fc P W f ds d) (hk : RW P W thr all os (σ.put dst d) Q) : CallW P W thr all f ds dst os σ Q := ⟨d, h, hk⟩
theorem CallT_use {f : FuncId} {ds : List D} {d : D} {tp' : Nat → Option (Nat × Nat)} {c' : Nat} (h : Ft P W f ds σ.tp σ.c d tp' c') (hk : RW P W thr all os (σ.app dst d tp' c') Q) : CallT P W thr all f ds dst os σ Q := ⟨d, tp', c', h, hk⟩
theorem AppW_use {t : Nat} {s x r : D} {tp' : Nat → Option (Nat × Nat)} {c' : Nat} (h : appD P t σ.tp σ.c s x = some (r, tp', c')) (hk : RW P W thr all os (σ.app dst r tp' c') Q) : AppW P W thr all t s x dst os σ Q := ⟨r, tp', c', h, hk⟩
theorem ends_ret {fn : Func} {R : D → St → Prop} (h : okD (resD P σ fn.results.toList) ∧ R (gD (resD P σ fn.results.toList)) σ) : Ends P fn R .ret σ := by
  obtain ⟨d, hd⟩ := Option.isSome_iff_exists.1 h.1
  have h2 := h.2
  rw [hd] at h2
  exact ⟨trivial, d, hd, h2⟩
theorem CW_sk {Q : Exit → St → Prop} (h : Q .normal σ) : CW P W thr .skip σ Q := h
theorem CW_ex {id : Nat} {Q : Exit → St → Prop} (h : Q (.exit id) σ) : CW P W thr (.exit id) σ Q := h
theorem CW_rt {Q : Exit → St → Prop} (h : Q .ret σ) : CW P W thr .ret σ Q := h
theorem CW_yes {c : Operand} {a b : Code} {Q : Exit → St → Prop} (hc : σ.ev c = .b true) (h : CW P W thr a σ Q) : CW P W thr (.cond c a b) σ Q := by
  unfold CW
  rw [hc]
  exact h
theorem CW_no {c : Operand} {a b : Code} {Q : Exit → St → Prop} (hc : σ.ev c = .b false) (h : CW P W thr b σ Q) : CW P W thr (.cond c a b) σ Q := by
  unfold CW
  rw [hc]
  exact h
theorem CW_seq1 {a b : Code} {Q : Exit → St → Prop} (h : CW P W thr a σ fun x τ => match x with
    | .normal => CW P W thr b τ Q
    | x => Q x τ) : CW P W thr (.seq a b) σ Q := h
theorem RW_yes {op : Op} {g : Nat × Bool} (h : wantD all σ.fr ⟨dst, op, ty, pos, aft, some g⟩ = some true) : RW P W thr all (⟨dst, op, ty, pos, aft, some g⟩ :: os) σ Q = RW P W thr all (⟨dst, op, ty, pos, aft, none⟩ :: os) σ Q := by
  show (∃ σ', stepR P W thr all _ σ σ' ∧ _) = (∃ σ', stepR P W thr all _ σ σ' ∧ _)
  have hw : wantD all σ.fr ⟨dst, op, ty, pos, aft, none⟩ = some true := rfl
  unfold stepR
  rw [h, hw]
  rfl
theorem RW_no {op : Op} {g : Nat × Bool} (h : wantD all σ.fr ⟨dst, op, ty, pos, aft, some g⟩ = some false) : RW P W thr all (⟨dst, op, ty, pos, aft, some g⟩ :: os) σ Q = RW P W thr all os (σ.put dst (.tu [])) Q := by
  show (∃ σ', stepR P W thr all _ σ σ' ∧ _) = _
  unfold stepR
  rw [h]
  simp
def wantV : D → Bool → Option Bool
  | .b x, want => some (x == want)
  | .tu [], _ => some false
  | _, _ => none
def wantT : Option Tmp → (Nat → D) → Bool → Option Bool
  | some t, fr, want => wantV (fr t) want
  | none, _, _ => none
theorem wantD_eq {fr : Nat → D} {op : Op} {j : Nat} {want : Bool} : wantD all fr ⟨dst, op, ty, pos, aft, some (j, want)⟩ = wantT ((all[j]?).bind (·.dst)) fr want := by
  unfold wantD wantT wantV
  simp only
  cases (all[j]?).bind (·.dst) with
  | none => rfl
  | some t =>
    simp only
    cases fr t with
    | tu l => cases l <;> rfl
    | _ => rfl
theorem wantT_some (t : Nat) (fr : Nat → D) (want : Bool) : wantT (some t) fr want = wantV (fr t) want := rfl
theorem wantV_b (x want : Bool) : wantV (.b x) want = some (x == want) := rfl
theorem wantV_u (want : Bool) : wantV (.tu []) want = some false := rfl
/- The state. -/
theorem ev_tmp (fr bx tp c) (t : Nat) : St.ev ⟨fr, bx, tp, c⟩ (.tmp t) = fr t := rfl
theorem ev_const (v : Value) : St.ev σ (.const v) = ofV v := rfl
theorem put_some (fr bx tp c) (t : Nat) (d : D) : St.put ⟨fr, bx, tp, c⟩ (some t) d = ⟨upd fr t d, bx, tp, c⟩ := rfl
theorem put_none (fr bx tp c) (d : D) : St.put ⟨fr, bx, tp, c⟩ none d = ⟨fr, bx, tp, c⟩ := rfl
theorem newBox_eq (fr bx tp c) (k : Nat) (d : D) : St.newBox ⟨fr, bx, tp, c⟩ k d = ⟨upd fr k (.p k c 0), upd2 bx k c (some d), tp, c + 1⟩ := rfl
theorem setBox_eq (fr bx tp c) (k g : Nat) (d : D) : St.setBox ⟨fr, bx, tp, c⟩ k g d = ⟨fr, upd2 bx k g (some d), tp, c⟩ := rfl
theorem app_some (fr bx tp c) (t : Nat) (d : D) (tp' c') : St.app ⟨fr, bx, tp, c⟩ (some t) d tp' c' = ⟨upd fr t d, bx, tp', c'⟩ := rfl
theorem init_eq (args tp c) : St.init args tp c = ⟨fun t => args.getD t (.tu []), fun _ _ => none, tp, c⟩ := rfl
theorem upd_if {α : Type} (f : Nat → α) (k j : Nat) (x : α) : upd f k x j = if j = k then x else f j := rfl
theorem upd2_if {α : Type} (f : Nat → Nat → α) (k g i j : Nat) (x : α) : upd2 f k g x i j = if i = k ∧ j = g then x else f i j := rfl
/- The code. -/
theorem CW_seq {a b : Code} {Q : Exit → St → Prop} (h : ∀ K : Exit → St → Prop, (∀ τ, CW P W thr b τ Q → K .normal τ) → (∀ x τ, x ≠ .normal → Q x τ → K x τ) → CW P W thr a σ K) : CW P W thr (.seq a b) σ Q := by
  refine h _ (fun τ h => h) (fun x τ hx h => ?_)
  cases x with
  | normal => exact absurd rfl hx
  | _ => exact h
theorem CW_reg {id : Nat} {ops : Array Oper} {dr : Bool} {b : Code} {Q : Exit → St → Prop} (h : ∀ K : St → Prop, (∀ τ, CW P W thr b τ Q → K τ) → RW P W thr ops ops.toList σ K) : CW P W thr (.seq (.region id ops dr) b) σ Q := h _ fun τ h => h
theorem CW_reg1 {id : Nat} {ops : Array Oper} {dr : Bool} {Q : Exit → St → Prop} (h : ∀ K : St → Prop, (∀ τ, Q .normal τ → K τ) → RW P W thr ops ops.toList σ K) : CW P W thr (.region id ops dr) σ Q := h _ fun τ h => h
theorem CW_ret {Q : Exit → St → Prop} : CW P W thr .ret σ Q = Q .ret σ := rfl
theorem CW_skip {Q : Exit → St → Prop} : CW P W thr .skip σ Q = Q .normal σ := rfl
theorem CW_exit {id : Nat} {Q : Exit → St → Prop} : CW P W thr (.exit id) σ Q = Q (.exit id) σ := rfl
theorem CW_cond {c : Operand} {a b : Code} {t : Bool} {Q : Exit → St → Prop} (hc : σ.ev c = .b t) (h1 : t = true → CW P W thr a σ Q) (h2 : t = false → CW P W thr b σ Q) : CW P W thr (.cond c a b) σ Q := by
  unfold CW
  rw [hc]
  cases t
  · exact h2 rfl
  · exact h1 rfl
theorem CW_block {id : Nat} {b : Code} {Q : Exit → St → Prop} (h : CW P W thr b σ fun x τ => match x with
    | .exit i => if i = id then Q .normal τ else Q (.exit i) τ
    | x => Q x τ) : CW P W thr (.block id b) σ Q := h
theorem CW_loop {b : Code} {Q : Exit → St → Prop} (I : Nat → St → Prop) (n : Nat) (h0 : I n σ) (h : ∀ n τ, I n τ → CW P W thr b τ fun x τ' => match x with
    | .normal => ∃ m, m < n ∧ I m τ'
    | x => Q x τ') : CW P W thr (.loop b) σ Q := ⟨I, ⟨n, h0⟩, h⟩
theorem CW_for {id : Nat} {b : Code} {Q : Exit → St → Prop} (I : Nat → St → Prop) (n : Nat) (h0 : I n σ)
    (h : ∀ n τ, I n τ → ∀ K : Exit → St → Prop, (∀ m τ', m < n → I m τ' → K .normal τ') → (∀ τ', Q .normal τ' → K (.exit id) τ') → (∀ τ', Q .ret τ' → K .ret τ') → (∀ j τ', j ≠ id → Q (.exit j) τ' → K (.exit j) τ') → CW P W thr b τ K) : CW P W thr (.block id (.loop b)) σ Q := by
  refine CW_block (CW_loop I n h0 fun n τ hI => h n τ hI _ (fun m τ' hm hI' => ⟨m, hm, hI'⟩) (fun τ' hq => ?_) (fun τ' hq => hq) (fun j τ' hj hq => ?_))
  · simp only [if_true]; exact hq
  · simp only [hj, if_false]; exact hq
theorem CW_blk {id : Nat} {b : Code} {Q : Exit → St → Prop}
    (h : ∀ K : Exit → St → Prop, (∀ τ', Q .normal τ' → K .normal τ') → (∀ τ', Q .normal τ' → K (.exit id) τ') → (∀ τ', Q .ret τ' → K .ret τ') → (∀ j τ', j ≠ id → Q (.exit j) τ' → K (.exit j) τ') → CW P W thr b σ K) : CW P W thr (.block id b) σ Q := by
  refine CW_block (h _ (fun τ' hq => hq) (fun τ' hq => ?_) (fun τ' hq => hq) (fun j τ' hj hq => ?_))
  · simp only [if_true]; exact hq
  · simp only [hj, if_false]; exact hq
end
end Go.Sh
