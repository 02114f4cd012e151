/- The shadow's regions: one after the other (RW), and that every order that the region allows comes to the same. No condition. -/
import Derived.Test.YtobamidecbfgpaaGreatDoorSh7
/- The shadow's steps: contracts of functions (Fc, Ft), what an operation does to the state (stepR), and that the run does so. No condition. -/
namespace Go.Sh
open Go.RowKit
set_option linter.unusedVariables false
def RepVs (E : Env) (w : World) (vs : List Value) (ds : List D) : Prop := vs.length = ds.length ∧ ∀ j, j < ds.length → Rep E w (vs.getD j undef) (ds.getD j .u)
/-- The contract of a call that is handed closed data. -/
def Fc (P : Program) (W : World) (f : FuncId) (args : List D) (d : D) : Prop :=
  ∀ (pr : Nat → Nat) (w : World) (vs : List Value), Below W.heap.size W w → (∀ b, w.heap.size ≤ b → pr b = 0) → RepVs (isoE pr) w vs args →
    Calls P f vs.toArray w fun e w' => ∃ v pr', e = .returned v ∧ Rep (isoE pr') w' v d ∧ Below w.heap.size w w' ∧ (∀ b, b < w.heap.size → pr' b = pr b) ∧ ∀ b, w'.heap.size ≤ b → pr' b = 0
def Tops (E : Env) (b : Nat) : Prop := ∃ k T, E.top k = some T ∧ T.blk = b
def Env.nobox (E : Env) : Env := { E with box := fun _ _ => none }
/-- What is handed to a call that may append: no pointer into a box. -/
def erp : D → D
  | .sl sz es o => .sl sz (es.map erp) o
  | .ag cs => .ag (cs.map erp)
  | .tu vs => .tu (vs.map erp)
  | .p _ _ _ => .u
  | .rp d => .rp (erp d)
  | .u => .u
  | .i k n => .i k n
  | .b x => .b x
  | .s l => .s l
  | .nil => .nil
  | .v x => .v x
theorem erp_cells (d : D) : (erp d).cells = d.cells.map erp := by cases d <;> simp [erp, D.cells]
theorem getD_map_erp (l : List D) (j : Nat) : (l.map erp).getD j .u = erp (l.getD j .u) := by
  simp only [List.getD, List.getElem?_map]
  cases l[j]? <;> simp [erp]
theorem OwnOk.nobox {E : Env} {blk off cap sz n : Nat} {o : Own} (h : OwnOk E blk off cap sz n o) : OwnOk E.nobox blk off cap sz n o := by cases o <;> exact h
theorem Rep.nobox {E : Env} {w : World} {v : Value} {d : D} (r : Rep E w v d) : Rep E.nobox w v (erp d) := by
  induction r with
  | u v => rw [erp]; exact .u v
  | i k n => rw [erp]; exact .i k n
  | b x => rw [erp]; exact .b x
  | s l => rw [erp]; exact .s l
  | v x => rw [erp]; exact .v x
  | nil => rw [erp]; exact .nil
  | sl blk off n cap sz es o f hn hcap hmax ho hg h1 hc hr ih =>
    rw [erp]
    refine .sl blk off n cap sz (es.map erp) o f (by simpa using hn) hcap hmax ho.nobox ?_ h1 hc (fun i j hi hj => ?_)
    · intro d hd
      obtain ⟨d', hd', rfl⟩ := List.mem_map.1 hd
      rw [erp_cells, List.length_map]
      exact hg d' hd'
    · rw [getD_map_erp, erp_cells, getD_map_erp]
      exact ih i j hi hj
  | ag vs cs hl h1 hr ih => rw [erp]; exact .ag vs _ (by simpa using hl) h1 (fun j hj => by rw [getD_map_erp]; exact ih j hj)
  | tu vs cs hl hr ih => rw [erp]; exact .tu vs _ (by simpa using hl) (fun j hj => by rw [getD_map_erp]; exact ih j hj)
  | p k g o blk hb => rw [erp]; exact .u _
  | rp blk off d f h1 hc hr ih =>
    rw [erp]
    have hl : (erp d).cells.length = d.cells.length := by rw [erp_cells, List.length_map]
    exact .rp blk off (erp d) f (fun j hj => h1 j (hl ▸ hj)) (fun j hj => hc j (hl ▸ hj)) (fun j hj => by rw [erp_cells, getD_map_erp]; exact ih j (hl ▸ hj))
/-- The contract of a call that may append to what it is handed. -/
def Ft (P : Program) (W : World) (f : FuncId) (args : List D) (tp : Nat → Option (Nat × Nat)) (c : Nat) (d : D) (tp' : Nat → Option (Nat × Nat)) (c' : Nat) : Prop :=
  c ≤ c' ∧ ∀ (E : Env) (w : World) (vs : List Value), E.box = (fun _ _ => none) → E.c = c → Below W.heap.size W w → (∀ b, Tops E b → W.heap.size ≤ b) → Fresh E w → EOk w.heap.size (Tops E) tp E w → RepVs E w vs args →
    Calls P f vs.toArray w fun e w' => ∃ v E', e = .returned v ∧ E'.box = (fun _ _ => none) ∧ Rep E' w' v d ∧ EOk w.heap.size (Tops E) tp' E' w' ∧ Fresh E' w' ∧ Kp (Tops E) w w' ∧ Ext E w E' w' ∧ E'.c = c' ∧ (∀ b, b < w.heap.size → ¬ Tops E b → E'.pr b = E.pr b)
def wantD (ops : Array Oper) (fr : Nat → D) (o : Oper) : Option Bool :=
  match o.guard with
  | none => some true
  | some (j, want) => match (ops[j]?).bind (·.dst) with
    | some t => match fr t with
      | .b x => some (x == want)
      | .tu [] => some false
      | _ => none
    | none => none
/-- What may be called. -/
def callable (P : Program) (f : FuncId) : Bool :=
  match P.funcs[f]? with
  | some fn => !(fn.name == "runtime.NumGoroutine") && fn.body.isSome
  | none => false
section
variable (P : Program) (W : World) (thr : FuncId → Bool)
def bodyR (o : Oper) (σ σ' : St) : Prop :=
  match o.op with
  | .alloc t => ∃ k z, o.dst = some k ∧ zeroD P t = some z ∧ z.solid = true ∧ σ' = σ.newBox k z
  | .box _ x => ∃ k, o.dst = some k ∧ (σ.ev x).solid = true ∧ σ' = σ.newBox k (σ.ev x)
  | .store t a x => ∃ k g p c, σ.ev a = .p k g p ∧ o.dst = none ∧ (σ.ev x).solid = true ∧ σ.bx k g = some c ∧ p + (σ.ev x).cells.length ≤ c.cells.length ∧ tsz P t = some (σ.ev x).cells.length ∧ σ' = σ.setBox k g (setc c p (σ.ev x))
  | .call { callee := .value (.func f), args, .. } =>
    (thr f = false ∧ ∃ d, Fc P W f (args.toList.map fun x => er (σ.ev x)) d ∧ σ' = σ.put o.dst d) ∨ (thr f = true ∧ ∃ d tp' c', Ft P W f (args.toList.map fun x => erp (σ.ev x)) σ.tp σ.c d tp' c' ∧ σ' = σ.app o.dst d tp' c')
  | .call { callee := .value (.tmp t), args, .. } => ∃ f caps d, σ.fr t = .v (.func (.func f) #[] caps) ∧ callable P f = true ∧
    (∀ (E0 : Env) (w0 : World) (M : Nat → Prop) (N : Nat) (E : Env) (a : Act) (w : World), Sim W E0 w0 M N σ E a w → Calls P f (args.map a.eval ++ caps) w fun e w' => ∃ v E', e = .returned v ∧ Rep E' w' v d ∧ Qs E w E' w') ∧ σ' = σ.put o.dst d
  | .call { callee := .builtin .append, args, argTypes } => ∃ s x t r tp' c', args.toList = [s, x] ∧ argTypes.toList = [t, t] ∧ appD P t σ.tp σ.c (σ.ev s) (σ.ev x) = some (r, tp', c') ∧ σ' = σ.app o.dst r tp' c'
  | op => ∃ d, opD P σ.ev σ.bx op = some d ∧ σ' = σ.put o.dst d
def stepR (ops : Array Oper) (o : Oper) (σ σ' : St) : Prop :=
  match wantD ops σ.fr o with
  | some true => bodyR P W thr o σ σ'
  | some false => σ' = σ.put o.dst (.tu [])
  | none => False
end
def opOk (P : Program) (N : Nat) (o : Oper) : Bool :=
  (match o.dst with
   | some t => decide (t < N)
   | none => true) &&
  (match o.op with
   | .call { callee := .value (.func f), .. } => callable P f
   | _ => true)
section
variable {P : Program} {W : World} {thr : FuncId → Bool} {E0 : Env} {w0 : World} {M : Nat → Prop} {N : Nat} {σ σ' : St} {E : Env} {a : Act} {w : World}
theorem run_call (ρ : Operand → Value) {o : Oper} {f : FuncId} {args : Array Operand} {tys : Array TypeId} (ho : o.op = .call { callee := .value (.func f), args := args, argTypes := tys }) (hρ : ρ (.func f) = .func (.func f) #[] #[]) (hf : callable P f = true) (w : World) :
    (execOp ρ o).run P w = .ok (.enter f (args.map ρ)) w := by
  unfold callable at hf
  split at hf
  · rename_i fn hfn
    simp at hf
    have hn : fn.body.isNone = false := by
      cases hq : fn.body with
      | none => rw [hq] at hf; simp at hf
      | some c => rfl
    simp only [execOp, ho, resolve, hρ, Deferred.ofValue, invoke, callFunc, Sem.run_bind, Sem.run_pure, Result.andThen_ok, run_program, hfn]
    simp [hf.1, hn]
  · cases hf
theorem wanted_of {ops : Array Oper} (h : Sim W E0 w0 M N σ E a w) {o : Oper} {b : Bool} (hw : wantD ops σ.fr o = some b) : Region.wanted o (yielded ops a.tmps) = b := by
  unfold wantD at hw
  unfold Region.wanted
  split at hw
  · rename_i hg
    rw [hg]
    injection hw
  · rename_i j want hg
    rw [hg]
    split at hw
    · rename_i t ht
      have hr := h.fr t
      have hy : yielded ops a.tmps j = (match a.tmps.getD t undef with | .bool b => some b | _ => none) := by
        unfold yielded
        rw [ht]
        simp only [Option.bind_some]
        cases hq : a.tmps[t]? with
        | none => simp [hq, undef]
        | some v => simp [hq]; cases v <;> rfl
      show (yielded ops a.tmps j == some want) = b
      rw [hy]
      split at hw
      · rename_i x hx
        rw [hx] at hr
        generalize a.tmps.getD t undef = v at hr
        cases hr
        injection hw
      · rename_i hx
        rw [hx] at hr
        generalize a.tmps.getD t undef = v at hr
        cases hr with
        | tu vs _ hl =>
          injection hw
      · cases hw
    · cases hw
theorem repVs_args {ρ : Operand → Value} {E' : Env} {ev : Operand → D} {w : World} (f : D → D) (hev : ∀ x, Rep E' w (ρ x) (f (ev x))) (l : List Operand) : RepVs E' w (l.map ρ) (l.map fun x => f (ev x)) := by
  refine ⟨by simp, fun j hj => ?_⟩
  have hj' : j < l.length := by simpa using hj
  simp only [List.getD, List.getElem?_map, List.getElem?_eq_getElem hj', Option.map_some, Option.getD_some]
  exact hev _
theorem stepR_sound {ops : Array Oper} {i : Nat} {o : Oper} (hi : ops[i]? = some o) (hok : opOk P N o = true) (h : Sim W E0 w0 M N σ E a w) (hs : stepR P W thr ops o σ σ') {Q : Exit → Act → World → Prop} {K : Act → World → Prop}
    (hK : ∀ E' a' w', Sim W E0 w0 M N σ' E' a' w' → K a' w') : wpOp P ops Q i K a w := by
  have hd : ∀ t, o.dst = some t → t < N := by
    intro t ht
    unfold opOk at hok
    rw [ht] at hok
    simp at hok
    exact hok.1
  have hb := h.base
  unfold wpOp
  simp only [hi]
  unfold stepR at hs
  split at hs
  case h_3 => exact hs.elim
  case h_2 =>
    rename_i hw
    rw [if_neg (by rw [wanted_of h hw]; simp)]
    subst hs
    exact hK _ _ _ (h.q (Qs.refl hb.fresh) hd (.tu [] [] rfl (fun j hj => absurd hj (Nat.not_lt_zero _))))
  case h_1 =>
    rename_i hw
    rw [if_pos (wanted_of h hw)]
    refine .inl ?_
    unfold Oper.wp
    unfold bodyR at hs
    split at hs
    · rename_i t ho
      obtain ⟨k, z, hk, hz, hzs, rfl⟩ := hs
      obtain ⟨i0, v, hi0, hv, rfl, hrl⟩ := zero_cells (E := E) (w := w) hz hzs
      obtain ⟨E', hsim⟩ := h.newBox (hd k hk) (ofV_rep E w v) hzs t
      have hr : (execOp a.eval o).run P w = .ok (.value (.pointer (some ⟨w.heap.size, 0, none⟩))) (w.alloc (.cells v.cells t)) := by
        have hzv : (zeroValue t).run P w = .ok v w := by simp [zeroValue, typeInfo, hi0, hv]
        simp [execOp, ho, Instr.alloc, hzv, newVar, newRow]
      rw [hr, Oper.upon_value, hk]
      exact hK _ _ _ hsim
    · rename_i t x ho
      obtain ⟨k, hk, hzs, rfl⟩ := hs
      obtain ⟨E', hsim⟩ := h.newBox (hd k hk) (h.ev x) hzs t
      have hr : (execOp a.eval o).run P w = .ok (.value (.pointer (some ⟨w.heap.size, 0, none⟩))) (w.alloc (.cells (a.eval x).cells t)) := by
        simp [execOp, ho, Instr.box, newVar, newRow]
      rw [hr, Oper.upon_value, hk]
      exact hK _ _ _ hsim
    · rename_i t ad x ho
      obtain ⟨k, g, p, c, he, hdst, hsol, hbx, hle, hsz, rfl⟩ := hs
      have ha := h.ev ad
      rw [he] at ha
      obtain ⟨w', hr, hsim⟩ := h.store ha (h.ev x) hsol hbx hle hsz
      have hr' : (execOp a.eval o).run P w = .ok .skip w' := by simp [execOp, ho, hr]
      rw [hr', Oper.upon_skip, hdst]
      exact hK _ _ _ hsim
    · rename_i f args tys ho
      have hf : callable P f = true := by
        unfold opOk at hok
        rw [ho] at hok
        simp at hok
        exact hok.2
      rw [run_call a.eval ho rfl hf w, Oper.upon_enter]
      rcases hs with ⟨_, d, hfn, rfl⟩ | ⟨_, d, tp', c', hfn, rfl⟩
      · have hc := hfn E.pr w (args.toList.map a.eval) hb.glob hb.fresh (repVs_args er (fun x => (h.ev x).iso) args.toList)
        have ha : (args.toList.map a.eval).toArray = args.map a.eval := by rw [← Array.toList_map]
        rw [ha] at hc
        refine hc.mono ?_
        rintro e w' ⟨v, pr', rfl, hv, hbel, hold, hnew⟩
        have hq : Qs E w { E with pr := pr' } w' := ⟨below_ext hb.fresh hbel rfl rfl rfl hold, hbel, rfl, rfl, rfl, hold, hnew⟩
        exact hK _ _ _ (h.q hq hd (hv.deiso { E with pr := pr' } rfl))
      · obtain ⟨hcc, hfn⟩ := hfn
        have ht := hb.top
        have hc := hfn E.nobox w (args.toList.map a.eval) rfl hb.c hb.glob (by
            rintro b ⟨k, T, hT, rfl⟩
            rcases (ht.at_ k T hT).2.2.2.2.2.1 with h1 | h1
            · exact Nat.le_trans hb.wle h1
            · exact hb.mle _ h1) hb.fresh
          ⟨ht.to, fun k T hT => by
            obtain ⟨h1, h2, h3, h4, h5, _, h7⟩ := ht.at_ k T hT
            exact ⟨h1, h2, h3, h4, h5, .inr ⟨k, T, hT, rfl⟩, h7⟩, ht.inj⟩ (repVs_args erp (fun x => (h.ev x).nobox) args.toList)
        have ha : (args.toList.map a.eval).toArray = args.map a.eval := by rw [← Array.toList_map]
        rw [ha] at hc
        refine hc.mono ?_
        rintro e w' ⟨v, E', rfl, hbox', hv, htop', hfresh', hkp', hext', hc', hold'⟩
        let E2 : Env := { E' with box := E.box }
        have hx2 : Ext E' w' E2 w' := ⟨fun b => Nat.le_refl _, fun _ _ _ => rfl, fun k g b hh => (by rw [hbox'] at hh; cases hh), fun _ _ hh _ => hh, Nat.le_refl _⟩
        have hx : Ext E w E2 w' := ⟨hext'.pr, hext'.cell, fun _ _ _ hh => hh, hext'.top, hext'.c⟩
        have hfr := fr_put h hx hd (hv.ext hx2)
        have hin : ∀ b, Tops E.nobox b → w0.heap.size ≤ b ∨ M b := by
          rintro b ⟨k, T, hT, rfl⟩
          exact (ht.at_ k T hT).2.2.2.2.2.1
        refine hK E2 _ _ ⟨⟨⟨fun k g blk hbx => ?_, hb.box.inj, fun k g blk k' T h1 h2 => ?_⟩, ⟨htop'.to, fun k T hT => ?_, htop'.inj⟩, hfresh', ?_, hb.ext.trans hx, hc', fun b hlt hm => ?_, ?_, hb.wle, hb.mle⟩, hfr.1, hfr.2.1, fun q => ?_⟩
        · obtain ⟨h1, h2, h3, d', cur, e, h4, h5, h6, h7⟩ := hb.box.at_ k g blk hbx
          have hlt := (Array.getElem?_eq_some_iff.1 h5).1
          have hnt : ¬ Tops E.nobox blk := by
            rintro ⟨k', T, hT, hh⟩
            exact hb.box.sep k g blk k' T hbx hT hh
          refine ⟨Nat.lt_of_lt_of_le h1 hext'.c, h2, ?_, d', cur, e, ?_, by rw [hkp'.block blk hlt hnt]; exact h5, h6, fun j hj => ⟨(h7 j hj).1, (h7 j hj).2.ext hx⟩⟩
          · show E'.pr blk = 0
            rw [hold' blk hlt hnt]
            exact h3
          · show (σ.app o.dst d tp' c').bx k g = some d'
            cases o.dst <;> exact h4
        · obtain ⟨_, _, _, d', cur, e, _, h5, _⟩ := hb.box.at_ k g blk h1
          have hlt := (Array.getElem?_eq_some_iff.1 h5).1
          rcases (htop'.at_ k' T h2).2.2.2.2.2.1 with hq | ⟨k2, T2, hT2, hq⟩
          · omega
          · rw [← hq]
            exact hb.box.sep k g blk k2 T2 h1 hT2
        · obtain ⟨h1, h2, h3, h4, h5, h6, h7⟩ := htop'.at_ k T hT
          refine ⟨h1, h2, h3, h4, h5, ?_, h7⟩
          rcases h6 with h6 | h6
          · exact .inl (Nat.le_trans hb.kp.size h6)
          · exact hin _ h6
        · exact ⟨hkp'.os.trans hb.kp.os, hkp'.tape.trans hb.kp.tape, hkp'.output.trans hb.kp.output, Nat.le_trans hb.kp.size hkp'.size, fun b hlt hm => (hkp'.block b (Nat.lt_of_lt_of_le hlt hb.kp.size) (fun hh => by
            rcases hin b hh with h1 | h1
            · omega
            · exact hm h1)).trans (hb.kp.block b hlt hm)⟩
        · show E'.pr b = E0.pr b
          rw [hold' b (Nat.lt_of_lt_of_le hlt hb.kp.size) (fun hh => by
            rcases hin b hh with h1 | h1
            · omega
            · exact hm h1)]
          exact hb.old b hlt hm
        · have hk := hb.glob
          exact ⟨hkp'.os.trans hk.os, hkp'.tape.trans hk.tape, hkp'.output.trans hk.output, Nat.le_trans hk.size hkp'.size, fun b hlt => (hkp'.block b (Nat.lt_of_lt_of_le hlt hk.size) (fun hh => by
            rcases hin b hh with h1 | h1
            · have := hb.wle; omega
            · have := hb.mle b h1; omega)).trans (hk.block b hlt)⟩
        · have := hfr.2.2 q
          show Rep E2 w' ((a.put o.dst v).tmps.getD q undef) ((σ.app o.dst d tp' c').fr q)
          cases hdst : o.dst <;> rw [hdst] at this <;> exact this
    · rename_i t args tys ho
      obtain ⟨f, caps, d, hft, hf, hcall, rfl⟩ := hs
      have hv := h.fr t
      rw [hft] at hv
      have hρ : a.eval (.tmp t) = .func (.func f) #[] caps := by
        show a.tmps.getD t undef = _
        generalize a.tmps.getD t undef = q at hv
        cases hv
        rfl
      have hr : (execOp a.eval o).run P w = .ok (.enter f (args.map a.eval ++ caps)) w := by
        unfold callable at hf
        split at hf
        · rename_i fn hfn
          simp at hf
          have hn : fn.body.isNone = false := by
            cases hq : fn.body with
            | none => rw [hq] at hf; simp at hf
            | some c => rfl
          simp only [execOp, ho, resolve, hρ, Deferred.ofValue, invoke, callFunc, Sem.run_bind, Sem.run_pure, Result.andThen_ok, run_program, hfn]
          simp [hf.1, hn]
        · cases hf
      rw [hr, Oper.upon_enter]
      refine (hcall _ _ _ _ _ _ _ h).mono ?_
      rintro e w' ⟨v, E', rfl, hv', hq⟩
      exact hK _ _ _ (h.q hq hd hv')
    · rename_i args tys ho
      obtain ⟨s, x, t, r, tp', c', h1, h2, h3, rfl⟩ := hs
      have h1 := arr2 h1
      have h2 := arr2 h2
      subst h1 h2
      obtain ⟨v, w', E', hr, hsim⟩ := h.append (ty := o.type) (h.ev s) (h.ev x) h3 hd
      have hr' : (execOp a.eval o).run P w = .ok (.value v) w' := by
        simp [execOp, ho, resolve, invoke, builtin, hr]
      rw [hr', Oper.upon_value]
      exact hK _ _ _ hsim
    · obtain ⟨d, hd', rfl⟩ := hs
      obtain ⟨v, E', w', hr, hv, hq⟩ := op_sound hb.fresh hb.box h.ev o hd'
      rw [hr, Oper.upon_value]
      exact hK _ _ _ (h.q hq hd hv)
end
end Go.Sh
namespace Go.Sh
open Go.RowKit
set_option linter.unusedVariables false
section
variable (P : Program) (W : World) (thr : FuncId → Bool)
/-- The operations that are left, in the order of the text. -/
def RW (all : Array Oper) : List Oper → St → (St → Prop) → Prop
  | [], σ, Q => Q σ
  | o :: os, σ, Q => ∃ σ', stepR P W thr all o σ σ' ∧ RW all os σ' Q
/-- So, for the numbers of operations. -/
inductive Ch (ops : Array Oper) : List Nat → St → St → Prop
  | nil (σ : St) : Ch ops [] σ σ
  | cons {i : Nat} {l : List Nat} {o : Oper} {σ σ' τ : St} (ho : ops[i]? = some o) (h : stepR P W thr ops o σ σ') (t : Ch ops l σ' τ) : Ch ops (i :: l) σ τ
end
section
variable {P : Program} {W : World} {thr : FuncId → Bool} {E0 : Env} {w0 : World} {M : Nat → Prop} {N : Nat} {σ σ' : St} {E : Env} {a : Act} {w : World} {ops : Array Oper}
theorem RW_ch {Q : St → Prop} : ∀ (l : List Oper) (k : Nat) (σ : St), (∀ j, j < l.length → ops[k + j]? = l[j]?) → RW P W thr ops l σ Q → ∃ τ, Ch P W thr ops (List.range' k l.length) σ τ ∧ Q τ
  | [], k, σ, _, h => ⟨σ, .nil σ, h⟩
  | o :: os, k, σ, hl, h => by
    obtain ⟨σ', h1, h2⟩ := h
    obtain ⟨τ, h3, h4⟩ := RW_ch os (k + 1) σ' (fun j hj => by
      have := hl (j + 1) (by simpa using hj)
      rw [Nat.add_assoc, Nat.add_comm 1 j]
      simpa using this) h2
    refine ⟨τ, ?_, h4⟩
    rw [List.length_cons, List.range'_succ]
    exact .cons (by have := hl 0 (by simp); simpa using this) h1 h3
theorem ch_sound (hok : ∀ o ∈ ops, opOk P N o = true) {Q : Exit → Act → World → Prop} {τ : St} : ∀ (l : List Nat) (σ : St), Ch P W thr ops l σ τ → ∀ (E : Env) (a : Act) (w : World), Sim W E0 w0 M N σ E a w → (∀ E a w, Sim W E0 w0 M N τ E a w → Q .normal a w) → wpOps P ops Q l a w := by
  intro l σ hc
  induction hc with
  | nil σ => intro E a w h hQ; exact hQ _ _ _ h
  | @cons i l o σ σ' τ ho hs ht ih =>
    intro E a w h hQ
    rw [wpOps_cons]
    exact stepR_sound ho (hok o (Array.mem_of_getElem? ho)) h hs (fun E' a' w' h' => ih E' a' w' h' hQ)
/-- Kinds of operations. -/
def isLoad : Op → Bool
  | .load _ _ => true
  | _ => false
def isNew : Op → Bool
  | .alloc _ => true
  | .box _ _ => true
  | _ => false
def isStore : Op → Bool
  | .store _ _ _ => true
  | .call { callee := .value (.tmp _), .. } => true
  | _ => false
def isSer (thr : FuncId → Bool) : Op → Bool
  | .alloc _ => true
  | .box _ _ => true
  | .call { callee := .value (.func f), .. } => thr f
  | .call { callee := .builtin .append, .. } => true
  | _ => false
/-- May the second of two operations go first? -/
def indep (thr : FuncId → Bool) (ops : Array Oper) (x y : Oper) : Bool :=
  Oper.apart ops x y && !isStore x.op && !isStore y.op && !(isSer thr x.op && isSer thr y.op) && !(isNew x.op && isLoad y.op)
def Wf (σ : St) : Prop := ∀ k g, σ.bx k g ≠ none → g < σ.c
/-- Two states look the same to an operation. -/
def Like (ops : Array Oper) (o : Oper) (σ τ : St) : Prop := ∀ t, t ∈ o.looksAt ops → τ.fr t = σ.fr t
theorem like_ev {o : Oper} {σ τ : St} (h : Like ops o σ τ) {x : Operand} (hx : x ∈ o.op.operands.toList) : τ.ev x = σ.ev x := by
  cases x with
  | tmp t => exact h t (List.mem_append_left _ (List.mem_filterMap.2 ⟨.tmp t, hx, rfl⟩))
  | const v => rfl
  | global g => rfl
  | func f => rfl
theorem like_want {o : Oper} {σ τ : St} (h : Like ops o σ τ) : wantD ops τ.fr o = wantD ops σ.fr o := by
  unfold wantD
  cases hg : o.guard with
  | none => rfl
  | some gw =>
    obtain ⟨j, want⟩ := gw
    simp only
    cases ht : (ops[j]?).bind (·.dst) with
    | none => rfl
    | some t =>
      simp only
      rw [h t (List.mem_append_right _ (by rw [hg]; simp [ht]))]
theorem loadD_mono {bx bx' : Nat → Nat → Option D} (h : ∀ k g d, bx k g = some d → bx' k g = some d) {t : TypeId} {x d : D} (hl : loadD P bx t x = some d) : loadD P bx' t x = some d := by
  unfold loadD at hl ⊢
  split at hl
  · exact hl
  · rename_i td n k g o hu hs
    cases hb : bx k g with
    | none => rw [hb] at hl; cases hl
    | some c =>
      rw [h _ _ _ hb]
      rw [hb] at hl
      exact hl
  · cases hl
theorem opD_like {ev ev' : Operand → D} {bx bx' : Nat → Nat → Option D} {op : Op} {d : D} (hev : ∀ x ∈ op.operands.toList, ev' x = ev x) (hbx : isLoad op = true → ∀ k g c, bx k g = some c → bx' k g = some c) (h : opD P ev bx op = some d) : opD P ev' bx' op = some d := by
  have pairs : ∀ (ps : Array (Nat × Operand)), (∀ x ∈ ((ps.toList.map (·.2)).toArray).toList, ev' x = ev x) → (ps.toList.map fun p => (p.1, ev' p.2)) = (ps.toList.map fun p => (p.1, ev p.2)) := fun ps hp =>
    List.map_congr_left fun p hm => by rw [hp p.2 (by simp only [List.mem_map]; exact ⟨p, hm, rfl⟩)]
  unfold opD at h
  split at h
  case h_1 x => rw [opD, hev x (by simp [Op.operands])]; exact h
  case h_2 x => rw [opD, hev x (by simp [Op.operands])]; exact h
  case h_3 c a b => rw [opD, hev c (by simp [Op.operands]), hev a (by simp [Op.operands]), hev b (by simp [Op.operands])]; exact h
  case h_4 t parts => rw [opD, pairs parts hev]; exact h
  case h_5 t n parts => rw [opD, pairs parts hev]; exact h
  case h_6 t x => rw [opD, hev x (by simp [Op.operands])]; exact loadD_mono (hbx rfl) h
  case h_7 op t x y yt => rw [opD, hev x (by simp [Op.operands]), hev y (by simp [Op.operands])]; exact h
  case h_8 t x => rw [opD, hev x (by simp [Op.operands])]; exact h
  case h_9 t x => rw [opD, hev x (by simp [Op.operands])]; exact h
  case h_10 s t x => rw [opD, hev x (by simp [Op.operands])]; exact h
  case h_11 t x lo hi =>
    rw [opD, hev x (by simp [Op.operands])]
    have e1 : lo.map ev' = lo.map ev := by cases lo with
      | none => rfl
      | some q => simp only [Option.map_some]; rw [hev q (by simp [Op.operands])]
    have e2 : hi.map ev' = hi.map ev := by cases hi with
      | none => rfl
      | some q => simp only [Option.map_some]; rw [hev q (by simp [Op.operands])]
    rw [e1, e2]
    exact h
  case h_12 s x f => rw [opD, hev x (by simp [Op.operands])]; exact h
  case h_13 t x i => rw [opD, hev x (by simp [Op.operands]), hev i (by simp [Op.operands])]; exact h
  case h_14 t x i => rw [opD, hev x (by simp [Op.operands]), hev i (by simp [Op.operands])]; exact h
  case h_15 x i => rw [opD, hev x (by simp [Op.operands])]; exact h
  case h_16 args tys =>
    rw [opD]
    split at h
    · rename_i x t ha ht
      have := arr1 ha
      subst this
      rw [hev x (by simp [Op.operands, Call.operands])]
      exact h
    · cases h
  case h_17 args tys =>
    rw [opD]
    split at h
    · rename_i x y ha
      have := arr2 ha
      subst this
      rw [hev x (by simp [Op.operands, Call.operands]), hev y (by simp [Op.operands, Call.operands])]
      exact h
    · cases h
  case h_18 args tys =>
    rw [opD]
    split at h
    · rename_i x y ha
      have := arr2 ha
      subst this
      rw [hev x (by simp [Op.operands, Call.operands]), hev y (by simp [Op.operands, Call.operands])]
      exact h
    · cases h
  case h_19 => cases h
def plain : Op → Bool
  | .alloc _ => false
  | .box _ _ => false
  | .store _ _ _ => false
  | .call { callee := .value (.func _), .. } => false
  | .call { callee := .value (.tmp _), .. } => false
  | .call { callee := .builtin .append, .. } => false
  | _ => true
theorem bodyR_plain {o : Oper} (hp : plain o.op = true) : bodyR P W thr o σ σ' ↔ ∃ d, opD P σ.ev σ.bx o.op = some d ∧ σ' = σ.put o.dst d := by
  unfold bodyR
  split
  · rename_i t ho; rw [ho] at hp; cases hp
  · rename_i t x ho; rw [ho] at hp; cases hp
  · rename_i t ad x ho; rw [ho] at hp; cases hp
  · rename_i f args tys ho; rw [ho] at hp; cases hp
  · rename_i t args tys ho; rw [ho] at hp; cases hp
  · rename_i args tys ho; rw [ho] at hp; cases hp
  · exact Iff.rfl
/-- A step that is no store and writes but its own slot. -/
theorem quiet_form {o : Oper} (hns : isSer thr o.op = false) (hst : isStore o.op = false) (h : stepR P W thr ops o σ σ') :
    ∃ d, σ' = σ.put o.dst d ∧ ∀ τ : St, Like ops o σ τ → (isLoad o.op = true → ∀ k g c, σ.bx k g = some c → τ.bx k g = some c) → stepR P W thr ops o τ (τ.put o.dst d) := by
  unfold stepR at h
  split at h
  · rename_i hw
    by_cases hp : plain o.op = true
    · obtain ⟨d, hd, rfl⟩ := (bodyR_plain hp).1 h
      refine ⟨d, rfl, fun τ hl hbx => ?_⟩
      unfold stepR
      rw [like_want hl, hw]
      exact (bodyR_plain hp).2 ⟨d, opD_like (fun x hx => like_ev hl hx) hbx hd, rfl⟩
    unfold bodyR at h
    split at h
    · rename_i t ho; rw [ho] at hns; cases hns
    · rename_i t x ho; rw [ho] at hns; cases hns
    · rename_i t ad x ho; rw [ho] at hst; cases hst
    · rename_i f args tys ho
      rcases h with ⟨ht, d, hfn, rfl⟩ | ⟨ht, _⟩
      · refine ⟨d, rfl, fun τ hl hbx => ?_⟩
        unfold stepR
        rw [like_want hl, hw]
        unfold bodyR
        rw [ho]
        refine .inl ⟨ht, d, ?_, rfl⟩
        have : (args.toList.map fun x => er (τ.ev x)) = (args.toList.map fun x => er (σ.ev x)) := List.map_congr_left fun x hx => by
          rw [like_ev hl (x := x) (by rw [ho]; simp [Op.operands, Call.operands]; exact .inr (by simpa using hx))]
        rw [this]
        exact hfn
      · rw [ho] at hns
        have : thr f = false := hns
        rw [this] at ht
        cases ht
    · rename_i t args tys ho; rw [ho] at hst; cases hst
    · rename_i args tys ho; rw [ho] at hns; cases hns
    · rename_i n1 n2 n3 n4 n6 n5
      refine absurd ?_ hp
      unfold plain
      split
      · exact absurd (by assumption) (n1 _)
      · exact absurd (by assumption) (n2 _ _)
      · exact absurd (by assumption) (n3 _ _ _)
      · exact absurd (by assumption) (n4 _ _ _)
      · exact absurd (by assumption) (n6 _ _ _)
      · exact absurd (by assumption) (n5 _ _)
      · rfl
  · rename_i hw
    subst h
    refine ⟨_, rfl, fun τ hl hbx => ?_⟩
    unfold stepR
    rw [like_want hl, hw]
  · exact h.elim
/-- A step that draws on the clock. -/
theorem ser_form {o : Oper} (hns : isSer thr o.op = true) (hst : isStore o.op = false) (hwf : Wf σ) (h : stepR P W thr ops o σ σ') :
    ∃ d bx' tp' c', σ' = ⟨(σ.put o.dst d).fr, bx', tp', c'⟩ ∧ (∀ k g c, σ.bx k g = some c → bx' k g = some c) ∧ (isNew o.op = false → bx' = σ.bx) ∧
      ∀ τ : St, Like ops o σ τ → τ.bx = σ.bx → τ.tp = σ.tp → τ.c = σ.c → stepR P W thr ops o τ ⟨(τ.put o.dst d).fr, bx', tp', c'⟩ := by
  unfold stepR at h
  have put_eq : ∀ (τ : St) (d : D), τ.put o.dst d = ⟨(τ.put o.dst d).fr, τ.bx, τ.tp, τ.c⟩ := fun τ d => by cases o.dst <;> rfl
  have app_eq : ∀ (τ : St) (d : D) tp' c', τ.app o.dst d tp' c' = ⟨(τ.put o.dst d).fr, τ.bx, tp', c'⟩ := fun τ d tp' c' => by unfold St.app; cases o.dst <;> rfl
  split at h
  · rename_i hw
    unfold bodyR at h
    split at h
    · rename_i t ho
      obtain ⟨k, z, hk, hz, hzs, rfl⟩ := h
      refine ⟨.p k σ.c 0, upd2 σ.bx k σ.c (some z), σ.tp, σ.c + 1, ?_, fun k' g' c hc => ?_, fun hn => (by rw [ho] at hn; cases hn), fun τ hl h1 h2 h3 => ?_⟩
      · rw [hk]; rfl
      · have := hwf k' g' (by rw [hc]; simp)
        unfold upd2
        rw [if_neg (by omega)]
        exact hc
      · unfold stepR
        rw [like_want hl, hw]
        unfold bodyR
        rw [ho]
        refine ⟨k, z, hk, hz, hzs, ?_⟩
        rw [hk, ← h1, ← h2, ← h3]
        rfl
    · rename_i t x ho
      obtain ⟨k, hk, hzs, rfl⟩ := h
      refine ⟨.p k σ.c 0, upd2 σ.bx k σ.c (some (σ.ev x)), σ.tp, σ.c + 1, ?_, fun k' g' c hc => ?_, fun hn => (by rw [ho] at hn; cases hn), fun τ hl h1 h2 h3 => ?_⟩
      · rw [hk]; rfl
      · have := hwf k' g' (by rw [hc]; simp)
        unfold upd2
        rw [if_neg (by omega)]
        exact hc
      · have hx := like_ev hl (x := x) (by rw [ho]; simp [Op.operands])
        unfold stepR
        rw [like_want hl, hw]
        unfold bodyR
        rw [ho]
        refine ⟨k, hk, by rw [hx]; exact hzs, ?_⟩
        rw [hk, ← h1, ← h2, ← h3, ← hx]
        rfl
    · rename_i t ad x ho; rw [ho] at hst; cases hst
    · rename_i f args tys ho
      rcases h with ⟨ht, _⟩ | ⟨ht, d, tp', c', hfn, rfl⟩
      · rw [ho] at hns
        have : thr f = true := hns
        rw [this] at ht
        cases ht
      · refine ⟨d, σ.bx, tp', c', app_eq _ _ _ _, fun _ _ _ h => h, fun _ => rfl, fun τ hl h1 h2 h3 => ?_⟩
        unfold stepR
        rw [like_want hl, hw]
        unfold bodyR
        rw [ho]
        refine .inr ⟨ht, d, tp', c', ?_, by rw [app_eq, h1]⟩
        have : (args.toList.map fun x => erp (τ.ev x)) = (args.toList.map fun x => erp (σ.ev x)) := List.map_congr_left fun x hx => by
          rw [like_ev hl (x := x) (by rw [ho]; simp [Op.operands, Call.operands]; exact .inr (by simpa using hx))]
        rw [this, h2, h3]
        exact hfn
    · rename_i t args tys ho; rw [ho] at hst; cases hst
    · rename_i args tys ho
      obtain ⟨s, x, t, r, tp', c', h1, h2, h3, rfl⟩ := h
      refine ⟨r, σ.bx, tp', c', app_eq _ _ _ _, fun _ _ _ h => h, fun _ => rfl, fun τ hl e1 e2 e3 => ?_⟩
      have ha := arr2 h1
      unfold stepR
      rw [like_want hl, hw]
      unfold bodyR
      rw [ho]
      refine ⟨s, x, t, r, tp', c', h1, h2, ?_, by rw [app_eq, e1]⟩
      rw [like_ev hl (x := s) (by rw [ho, ha]; simp [Op.operands, Call.operands]), like_ev hl (x := x) (by rw [ho, ha]; simp [Op.operands, Call.operands]), e2, e3]
      exact h3
    · rename_i n1 n2 n3 n4 n6 n5
      exfalso
      unfold isSer at hns
      split at hns
      · exact absurd (by assumption) (n1 _)
      · exact absurd (by assumption) (n2 _ _)
      · exact absurd (by assumption) (n4 _ _ _)
      · exact absurd (by assumption) (n5 _ _)
      · cases hns
  · rename_i hw
    subst h
    refine ⟨.tu [], σ.bx, σ.tp, σ.c, put_eq _ _, fun _ _ _ h => h, fun _ => rfl, fun τ hl h1 h2 h3 => ?_⟩
    unfold stepR
    rw [like_want hl, hw]
    simp only
    rw [← h1, ← h2, ← h3]
    exact (put_eq _ _).symm
  · exact h.elim
theorem put_fr_ne {o : Oper} {σ : St} {d : D} {t : Nat} (h : o.dst ≠ some t) : (σ.put o.dst d).fr t = σ.fr t := by
  cases hd : o.dst with
  | none => rfl
  | some k => exact upd_other _ _ (fun e => h (by rw [hd, e]))
theorem updo_comm {x y : Option Tmp} (h : ∀ d, x = some d → y ≠ some d) (fr : Nat → D) (dx dy : D) : updo (updo fr x dx) y dy = updo (updo fr y dy) x dx := by
  cases x with
  | none => rfl
  | some i =>
    cases y with
    | none => rfl
    | some j =>
      have hne : j ≠ i := fun e => h i rfl (by rw [e])
      funext t
      simp only [updo, upd]
      by_cases h1 : t = i
      · subst h1
        simp [Ne.symm hne]
      · simp [h1]
/-- The second one first. -/
theorem swap {x y : Oper} {σ σ1 σ2 : St} (hi : indep thr ops x y = true) (hwf : Wf σ) (h1 : stepR P W thr ops x σ σ1) (h2 : stepR P W thr ops y σ1 σ2) : ∃ τ, stepR P W thr ops y σ τ ∧ stepR P W thr ops x τ σ2 := by
  unfold indep at hi
  simp only [Bool.and_eq_true, Bool.not_eq_true', Bool.and_eq_false_iff] at hi
  obtain ⟨⟨⟨⟨hap, hsx⟩, hsy⟩, hser⟩, hnl⟩ := hi
  obtain ⟨a1, a2, a3⟩ := Oper.apart_spec hap
  have lk : ∀ (o p : Oper) (σ : St) (d : D) bx tp c, (∀ t, o.dst = some t → t ∉ p.looksAt ops) → Like ops p (⟨(σ.put o.dst d).fr, bx, tp, c⟩ : St) σ := by
    intro o p σ d bx tp c ho t ht
    exact (put_fr_ne (fun e => ho t e ht)).symm
  have lk' : ∀ (o p : Oper) (σ : St) (d : D) bx tp c, (∀ t, o.dst = some t → t ∉ p.looksAt ops) → Like ops p σ (⟨(σ.put o.dst d).fr, bx, tp, c⟩ : St) := by
    intro o p σ d bx tp c ho t ht
    exact put_fr_ne (fun e => ho t e ht)
  cases hxs : isSer thr x.op with
  | false =>
    obtain ⟨dx, rfl, hx⟩ := quiet_form hxs hsx h1
    cases hys : isSer thr y.op with
    | false =>
      obtain ⟨dy, rfl, hy⟩ := quiet_form hys hsy h2
      refine ⟨σ.put y.dst dy, hy σ (lk x y σ dx _ _ _ a1) (fun _ _ _ _ h => h), ?_⟩
      have := hx (σ.put y.dst dy) (lk' y x σ dy _ _ _ a3) (fun _ k g c hc => hc)
      have he : (σ.put x.dst dx).put y.dst dy = (σ.put y.dst dy).put x.dst dx := congrArg (fun fr => (⟨fr, σ.bx, σ.tp, σ.c⟩ : St)) (updo_comm a2 σ.fr dx dy)
      rw [he]
      exact this
    | true =>
      obtain ⟨dy, bx', tp', c', rfl, hmono, hnew, hy⟩ := ser_form hys hsy (by exact hwf) h2
      refine ⟨⟨(σ.put y.dst dy).fr, bx', tp', c'⟩, hy σ (lk x y σ dx _ _ _ a1) rfl rfl rfl, ?_⟩
      have := hx ⟨(σ.put y.dst dy).fr, bx', tp', c'⟩ (lk' y x σ dy _ _ _ a3) (fun _ k g c hc => hmono k g c hc)
      have he : (⟨((σ.put x.dst dx).put y.dst dy).fr, bx', tp', c'⟩ : St) = (⟨(σ.put y.dst dy).fr, bx', tp', c'⟩ : St).put x.dst dx := congrArg (fun fr => (⟨fr, bx', tp', c'⟩ : St)) (updo_comm a2 σ.fr dx dy)
      rw [he]
      exact this
  | true =>
    have hys : isSer thr y.op = false := by
      rcases hser with h | h
      · rw [hxs] at h; cases h
      · exact h
    obtain ⟨dx, bx', tp', c', rfl, hmono, hnew, hx⟩ := ser_form hxs hsx hwf h1
    obtain ⟨dy, rfl, hy⟩ := quiet_form hys hsy h2
    refine ⟨σ.put y.dst dy, hy σ (lk x y σ dx _ _ _ a1) (fun hl k g c hc => ?_), ?_⟩
    · rcases hnl with hn | hn
      · rw [hnew hn] at hc; exact hc
      · rw [hl] at hn; cases hn
    · have := hx (σ.put y.dst dy) (lk' y x σ dy _ _ _ a3) rfl rfl rfl
      have he : (⟨(σ.put x.dst dx).fr, bx', tp', c'⟩ : St).put y.dst dy = ⟨((σ.put y.dst dy).put x.dst dx).fr, bx', tp', c'⟩ := congrArg (fun fr => (⟨fr, bx', tp', c'⟩ : St)) (updo_comm a2 σ.fr dx dy)
      rw [he]
      exact this
end
end Go.Sh
