/- The shadow's code: sequences, branches, loops (CW); functions (Fc_intro, Ft_intro). No condition. -/
import Derived.Test.YtobamidecbfgpaaGreatDoorShA
namespace Go.Sh
open Go.RowKit
set_option linter.unusedVariables false
section
variable (P : Program) (W : World) (thr : FuncId → Bool)
def CW : Code → St → (Exit → St → Prop) → Prop
  | .skip, σ, Q => Q .normal σ
  | .region _ ops _, σ, Q => RW P W thr ops ops.toList σ (Q .normal)
  | .seq a b, σ, Q => CW a σ fun x τ => match x with
    | .normal => CW b τ Q
    | x => Q x τ
  | .cond c a b, σ, Q => match σ.ev c with
    | .b true => CW a σ Q
    | .b false => CW b σ Q
    | _ => False
  | .block id b, σ, Q => CW b σ fun x τ => match x with
    | .exit i => if i = id then Q .normal τ else Q (.exit i) τ
    | x => Q x τ
  | .loop b, σ, Q => ∃ I : Nat → St → Prop, (∃ n, I n σ) ∧ ∀ n τ, I n τ → CW b τ fun x τ' => match x with
    | .normal => ∃ m, m < n ∧ I m τ'
    | x => Q x τ'
  | .exit id, σ, Q => Q (.exit id) σ
  | .ret, σ, Q => Q .ret σ
  | _, _, _ => False
end
def codeOk (P : Program) (thr : FuncId → Bool) (N : Nat) : Code → Bool
  | .region _ ops draw => ops.all (opOk P N) && (!draw || ordOk thr ops)
  | .seq a b => codeOk P thr N a && codeOk P thr N b
  | .cond _ a b => codeOk P thr N a && codeOk P thr N b
  | .block _ b => codeOk P thr N b
  | .loop b => codeOk P thr N b
  | _ => true
section
variable {P : Program} {W : World} {thr : FuncId → Bool} {E0 : Env} {w0 : World} {M : Nat → Prop} {N : Nat} {σ σ' : St} {E : Env} {a : Act} {w : World} {ops : Array Oper}
theorem CW_mono : ∀ (c : Code) (σ : St) (Q Q' : Exit → St → Prop), (∀ x τ, Q x τ → Q' x τ) → CW P W thr c σ Q → CW P W thr c σ Q'
  | .skip, σ, Q, Q', hq, h => hq _ _ h
  | .region _ ops _, σ, Q, Q', hq, h => by
    have key : ∀ (l : List Oper) (σ : St), RW P W thr ops l σ (Q .normal) → RW P W thr ops l σ (Q' .normal) := by
      intro l
      induction l with
      | nil => exact fun σ h => hq _ _ h
      | cons o l ih => exact fun σ ⟨τ, h1, h2⟩ => ⟨τ, h1, ih τ h2⟩
    exact key _ _ h
  | .seq a b, σ, Q, Q', hq, h => by
    refine CW_mono a σ _ _ (fun x τ hx => ?_) h
    cases x with
    | normal => exact CW_mono b τ Q Q' hq hx
    | _ => exact hq _ _ hx
  | .cond c a b, σ, Q, Q', hq, h => by
    unfold CW at h ⊢
    split at h
    · exact CW_mono a σ Q Q' hq h
    · exact CW_mono b σ Q Q' hq h
    · exact h
  | .block id b, σ, Q, Q', hq, h => by
    refine CW_mono b σ _ _ (fun x τ hx => ?_) h
    cases x with
    | exit i =>
      simp only at hx ⊢
      split
      · rename_i hi; rw [if_pos hi] at hx; exact hq _ _ hx
      · rename_i hi; rw [if_neg hi] at hx; exact hq _ _ hx
    | _ => exact hq _ _ hx
  | .loop b, σ, Q, Q', hq, ⟨I, h0, h1⟩ => by
    refine ⟨I, h0, fun n τ hI => CW_mono b τ _ _ (fun x τ' hx => ?_) (h1 n τ hI)⟩
    cases x with
    | normal => exact hx
    | _ => exact hq _ _ hx
  | .exit id, σ, Q, Q', hq, h => hq _ _ h
  | .ret, σ, Q, Q', hq, h => hq _ _ h
  | .rangeFunc _ _ _ _, σ, Q, Q', hq, h => h
  | .goto _, σ, Q, Q', hq, h => h
  | .label _, σ, Q, Q', hq, h => h
  | .scope _, σ, Q, Q', hq, h => h
  | .refuse _, σ, Q, Q', hq, h => h
theorem wp_loop_n {c : Code} {Q : Exit → Act → World → Prop} (I : Nat → Act → World → Prop) (n : Nat) (h0 : I n a w) (round : ∀ n a w, I n a w → c.wp P (Exit.then (fun a' w' => ∃ m, m < n ∧ I m a' w') Q) a w) : (Code.loop c).wp P Q a w := by
  intro b k cs
  have key : ∀ n a w, I n a w → ∃ e a' w', Q e a' w' ∧ Arrives P (lone (b.at a (.code c :: .inLoop c :: k)) cs w) b k cs e a' w' := by
    intro n
    induction n using Nat.strongRecOn with
    | _ n ih =>
      intro a w hI
      obtain ⟨e, a₁, w₁, hq, harr⟩ := round n a w hI b (.inLoop c :: k) cs
      cases e with
      | normal =>
        obtain ⟨m, hlt, hI₁⟩ := hq
        obtain ⟨e₂, a₂, w₂, hq₂, harr₂⟩ := ih m hlt a₁ w₁ hI₁
        exact ⟨e₂, a₂, w₂, hq₂, .of_steps (Steps.trans harr (.one step_inLoop)) harr₂⟩
      | exit id => exact ⟨_, a₁, w₁, hq, .pass (x := .inLoop c) rfl (fun _ _ => .inl (by simp)) harr⟩
      | goto l => exact ⟨_, a₁, w₁, hq, .pass (x := .inLoop c) rfl (fun _ _ => .inl (by simp)) harr⟩
      | ret => exact ⟨_, a₁, w₁, hq, .pass (x := .inLoop c) rfl (fun _ _ => .inl (by simp)) harr⟩
      | panic ch => exact ⟨_, a₁, w₁, hq, .pass (x := .inLoop c) rfl (fun _ _ => .inl (by simp)) harr⟩
      | outgrown => exact ⟨_, a₁, w₁, hq, .pass (x := .inLoop c) rfl (fun _ _ => .inl (by simp)) harr⟩
  obtain ⟨e, a', w', hq, harr⟩ := key n a w h0
  exact ⟨e, a', w', hq, .of_steps (.one step_loop) harr⟩
def Post (W : World) (E0 : Env) (w0 : World) (M : Nat → Prop) (N : Nat) (Q : Exit → St → Prop) : Exit → Act → World → Prop := fun x a w => ∃ τ E, Wf τ ∧ Sim W E0 w0 M N τ E a w ∧ Q x τ
theorem code_sound (hm : P.follows .mixedOrders = true) : ∀ (c : Code) (σ : St) (Q : Exit → St → Prop), codeOk P thr N c = true → CW P W thr c σ Q → Wf σ → ∀ (E : Env) (a : Act) (w : World), Sim W E0 w0 M N σ E a w → c.wp P (Post W E0 w0 M N Q) a w
  | .skip, σ, Q, _, h, hwf, E, a, w, hs => wp_skip ⟨σ, E, hwf, hs, h⟩
  | .region id ops draw, σ, Q, hok, h, hwf, E, a, w, hs => by
    simp only [codeOk, Bool.and_eq_true, Array.all_eq_true_iff_forall_mem, Bool.or_eq_true, Bool.not_eq_true'] at hok
    exact region_sound hm hok.1 (fun hd => hok.2.resolve_left (by simp [hd])) h hwf hs fun τ E a w hR hwfτ hsτ => ⟨τ, E, hwfτ, hsτ, hR⟩
  | .seq x y, σ, Q, hok, h, hwf, E, a, w, hs => by
    simp only [codeOk, Bool.and_eq_true] at hok
    refine wp_seq (wp_mono (code_sound hm x σ _ hok.1 h hwf E a w hs) ?_)
    rintro e a' w' ⟨τ, E', hwf', hs', hq⟩
    cases e with
    | normal => exact code_sound hm y τ Q hok.2 hq hwf' E' a' w' hs'
    | _ => exact ⟨τ, E', hwf', hs', hq⟩
  | .cond c x y, σ, Q, hok, h, hwf, E, a, w, hs => by
    simp only [codeOk, Bool.and_eq_true] at hok
    unfold CW at h
    have hc := hs.ev c
    split at h
    · rename_i he
      rw [he] at hc
      generalize hq : a.eval c = v at hc
      cases hc
      exact wp_cond_true hq (code_sound hm x σ Q hok.1 h hwf E a w hs)
    · rename_i he
      rw [he] at hc
      generalize hq : a.eval c = v at hc
      cases hc
      exact wp_cond_false hq (code_sound hm y σ Q hok.2 h hwf E a w hs)
    · exact h.elim
  | .block id b, σ, Q, hok, h, hwf, E, a, w, hs => by
    refine wp_block (wp_mono (code_sound hm b σ _ hok h hwf E a w hs) ?_)
    rintro e a' w' ⟨τ, E', hwf', hs', hq⟩
    cases e with
    | exit i =>
      simp only [Exit.inBlock] at hq ⊢
      split
      · rename_i hi; rw [if_pos hi] at hq; exact ⟨τ, E', hwf', hs', hq⟩
      · rename_i hi; rw [if_neg hi] at hq; exact ⟨τ, E', hwf', hs', hq⟩
    | _ => exact ⟨τ, E', hwf', hs', hq⟩
  | .loop b, σ, Q, hok, ⟨I, ⟨n, h0⟩, h1⟩, hwf, E, a, w, hs => by
    refine wp_loop_n (fun n a w => ∃ τ E, Wf τ ∧ Sim W E0 w0 M N τ E a w ∧ I n τ) n ⟨σ, E, hwf, hs, h0⟩ ?_
    rintro n a w ⟨τ, E, hwf', hs', hI⟩
    refine wp_mono (code_sound hm b τ _ hok (h1 n τ hI) hwf' E a w hs') ?_
    rintro e a' w' ⟨τ', E', hwf'', hs'', hq⟩
    cases e with
    | normal =>
      obtain ⟨m, hlt, hI'⟩ := hq
      exact ⟨m, hlt, τ', E', hwf'', hs'', hI'⟩
    | _ => exact ⟨τ', E', hwf'', hs'', hq⟩
  | .exit id, σ, Q, _, h, hwf, E, a, w, hs => wp_exit ⟨σ, E, hwf, hs, h⟩
  | .ret, σ, Q, _, h, hwf, E, a, w, hs => wp_ret ⟨σ, E, hwf, hs, h⟩
  | .rangeFunc _ _ _ _, σ, Q, _, h, hwf, E, a, w, hs => h.elim
  | .goto _, σ, Q, _, h, hwf, E, a, w, hs => h.elim
  | .label _, σ, Q, _, h, hwf, E, a, w, hs => h.elim
  | .scope _, σ, Q, _, h, hwf, E, a, w, hs => h.elim
  | .refuse _, σ, Q, _, h, hwf, E, a, w, hs => h.elim
/-- What a function hands back. -/
def resD1 (P : Program) (σ : St) : ResultVar → Option D
  | .tmp t => some (σ.fr t)
  | .cell t ty => loadD P σ.bx ty (σ.fr t)
def resL (P : Program) (σ : St) : List ResultVar → Option (List D)
  | [] => some []
  | r :: rs => match resD1 P σ r, resL P σ rs with
    | some d, some l => some (d :: l)
    | _, _ => none
def resD (P : Program) (σ : St) (l : List ResultVar) : Option D :=
  match resL P σ l with
  | some [d] => some d
  | some ds => some (.tu ds)
  | none => none
theorem resL_sound (hs : Sim W E0 w0 M N σ E a w) : ∀ (l : List ResultVar) (ds : List D), resL P σ l = some ds → ∃ vs, (l.mapM fun
    | .tmp t => pure (a.tmps.getD t undef)
    | .cell p t => do loadVar t (← asAddr (a.tmps.getD p undef)) : Sem (List Value)).run P w = .ok vs w ∧ vs.length = ds.length ∧ ∀ j, j < ds.length → Rep E w (vs.getD j undef) (ds.getD j .u)
  | [], ds, h => by
    simp [resL] at h
    subst h
    exact ⟨[], by simp, rfl, fun j hj => absurd hj (Nat.not_lt_zero _)⟩
  | r :: rs, ds, h => by
    unfold resL at h
    split at h
    case h_2 => cases h
    rename_i d l hd hl
    injection h with h
    subst h
    obtain ⟨vs, h1, h2, h3⟩ := resL_sound hs rs l hl
    have one : ∃ v, ((match r with
      | .tmp t => pure (a.tmps.getD t undef)
      | .cell p t => do loadVar t (← asAddr (a.tmps.getD p undef)) : Sem Value)).run P w = .ok v w ∧ Rep E w v d := by
      cases r with
      | tmp t =>
        simp only [resD1] at hd
        injection hd with hd
        subst hd
        exact ⟨_, rfl, hs.fr t⟩
      | cell t ty =>
        simp only [resD1] at hd
        obtain ⟨v, hv1, hv2⟩ := load_sound hs.base.box (hs.fr t) hd
        refine ⟨v, ?_, hv2⟩
        rw [← hv1]
        have hp : ∃ ad, a.tmps.getD t undef = .pointer (some ad) := by
          have hr := hs.fr t
          unfold loadD at hd
          split at hd
          · rename_i he; rw [he] at hr; generalize a.tmps.getD t undef = q at hr; cases hr; exact ⟨_, rfl⟩
          · rename_i he; rw [he] at hr; generalize a.tmps.getD t undef = q at hr; cases hr; exact ⟨_, rfl⟩
          · cases hd
        obtain ⟨ad, had⟩ := hp
        simp only [had, asAddr, Instr.loadAt, Instr.sureAddr, Sem.run_bind, Sem.run_pure, Result.andThen_ok]
    obtain ⟨v, hv1, hv2⟩ := one
    refine ⟨v :: vs, ?_, by simp [h2], fun j hj => ?_⟩
    · simp only [List.mapM_cons, Sem.run_bind, hv1, Result.andThen_ok, h1, Sem.run_pure]
    · cases j with
      | zero => exact hv2
      | succ j => exact h3 j (by simpa using hj)
theorem resD_sound (hs : Sim W E0 w0 M N σ E a w) (fn : Func) {d : D} (h : resD P σ fn.results.toList = some d) : ∃ v, (results fn a.tmps).run P w = .ok v w ∧ Rep E w v d := by
  have key : ∀ ds, resL P σ fn.results.toList = some ds → ∃ vs : List Value, (results fn a.tmps).run P w = .ok (if h : vs.toArray.size = 1 then vs.toArray[0] else .tuple vs.toArray) w ∧ vs.length = ds.length ∧ ∀ j, j < ds.length → Rep E w (vs.getD j undef) (ds.getD j .u) := by
    intro ds hds
    obtain ⟨vs, h1, h2, h3⟩ := resL_sound hs fn.results.toList ds hds
    refine ⟨vs, ?_, h2, h3⟩
    unfold results
    rw [Array.mapM_eq_mapM_toList]
    simp only [Array.getD_eq_getD_getElem?] at h1 ⊢
    simp
    exact (congrArg (fun r => Result.andThen r fun (a : List Value) w' => Result.ok (if h : a.length = 1 then a[0] else Value.tuple a.toArray) w') h1).trans rfl
  unfold resD at h
  split at h
  · rename_i d' hds
    injection h with h
    subst h
    obtain ⟨vs, h1, h2, h3⟩ := key _ hds
    match vs, h2 with
    | [v], _ => exact ⟨v, h1, h3 0 (by simp)⟩
  · rename_i ds hne hds
    injection h with h
    subst h
    obtain ⟨vs, h1, h2, h3⟩ := key _ hds
    refine ⟨.tuple vs.toArray, ?_, .tu vs ds h2 (fun j hj => h3 j (h2 ▸ hj))⟩
    rw [h1, dif_neg]
    intro hh
    have : ds.length = 1 := by rw [← h2]; simpa using hh
    match ds, this with
    | [d], _ => exact hne d rfl
  · cases h
def St.init (args : List D) (tp : Nat → Option (Nat × Nat)) (c : Nat) : St := ⟨fun t => args.getD t (.tu []), fun _ _ => none, tp, c⟩
theorem init_fr {args : List D} {vs : List Value} (h : RepVs E w vs args) (n : Nat) (t : Nat) : Rep E w ((vs.toArray ++ Array.replicate n undef).getD t undef) (args.getD t (.tu [])) := by
  by_cases ht : t < args.length
  · have := h.2 t ht
    have e1 : (vs.toArray ++ Array.replicate n undef).getD t undef = vs.getD t undef := by
      have : t < vs.length := by rw [h.1]; exact ht
      simp [Array.getElem?_append, this, List.getD]
    have e2 : args.getD t (.tu []) = args.getD t .u := by simp [List.getD, List.getElem?_eq_getElem ht]
    rw [e1, e2]
    exact this
  · have e1 : (vs.toArray ++ Array.replicate n undef).getD t undef = undef := by
      have : ¬ t < vs.length := by rw [h.1]; exact ht
      simp only [Array.getD_eq_getD_getElem?, Array.getElem?_append]
      rw [if_neg (by simpa using this)]
      simp [Array.getElem?_replicate]
      split <;> rfl
    have e2 : args.getD t (.tu []) = .tu [] := by simp [List.getD, List.getElem?_eq_none (Nat.le_of_not_lt ht)]
    rw [e1, e2]
    exact .tu [] [] rfl (fun j hj => absurd hj (Nat.not_lt_zero _))
def Ends (P : Program) (fn : Func) (R : D → St → Prop) : Exit → St → Prop := fun x τ => (match x with
    | .normal => True
    | .ret => True
    | _ => False) ∧ ∃ d, resD P τ fn.results.toList = some d ∧ R d τ
theorem ends_body {fn : Func} {R : D → St → Prop} {R' : Ending → World → Prop} (hR : ∀ τ E a w d v, Sim W E0 w0 M N τ E a w → Rep E w v d → R d τ → R' (.returned v) w) : ∀ x a w, Post W E0 w0 M N (Ends P fn R) x a w → bodyPost P fn R' x a w := by
  rintro x a w ⟨τ, E, hwf, hs, hx, d, hd, hr⟩
  obtain ⟨v, h1, h2⟩ := resD_sound hs fn hd
  cases x with
  | normal => exact ⟨hs.defers, v, h1, hR τ E a w d v hs h2 hr⟩
  | ret => exact ⟨hs.defers, v, h1, hR τ E a w d v hs h2 hr⟩
  | _ => exact hx.elim
/-- A function's contract. -/
theorem Fc_intro {f : FuncId} {fn : Func} {c : Code} {args : List D} {d : D} (hm : P.follows .mixedOrders = true) (hf : P.funcs[f]? = some fn) (hb : fn.body = some c) (hok : codeOk P thr fn.ntmps c = true) (hn : args.length ≤ fn.ntmps)
    (h : CW P W thr c (St.init args (fun _ => none) 0) (Ends P fn fun r _ => er r = d)) : Fc P W f args d := by
  intro pr w vs hg hfresh hvs
  refine calls_of_wp hf hb ?_
  have hsim : Sim W (isoE pr) w (fun _ => False) fn.ntmps (St.init args (fun _ => none) 0) (isoE pr) { tmps := vs.toArray ++ Array.replicate (fn.ntmps - vs.toArray.size) undef, defers := [] } w := by
    refine ⟨⟨⟨fun k g b hb => (by cases hb), fun k g k' g' b hb => (by cases hb), fun k g b k' T hb => (by cases hb)⟩, ⟨fun k g n ht => (by cases ht), fun k T hT => (by cases hT), fun k k' T T' hT => (by cases hT)⟩, hfresh, Kp.refl _ w, Ext.refl _ _, rfl, fun _ _ _ => rfl, hg, hg.size, fun b hb => hb.elim⟩, ?_, rfl, fun t => init_fr hvs _ t⟩
    have := hvs.1
    simp
    omega
  refine wp_mono (code_sound hm c _ _ hok h (fun k g hne => absurd rfl hne) _ _ _ hsim) (ends_body (fun τ E a w' r v hs hv hr => ?_))
  have hbel : Below w.heap.size w w' := ⟨hs.base.kp.os, hs.base.kp.tape, hs.base.kp.output, hs.base.kp.size, fun b hlt => hs.base.kp.block b hlt (fun h => h)⟩
  exact ⟨v, E.pr, rfl, hr ▸ hv.iso, hbel, fun b hlt => hs.base.old b hlt (fun h => h), hs.base.fresh⟩
theorem Ft_intro {f : FuncId} {fn : Func} {cd : Code} {args : List D} {d : D} {tp tp' : Nat → Option (Nat × Nat)} {c c' : Nat} (hm : P.follows .mixedOrders = true) (hf : P.funcs[f]? = some fn) (hb : fn.body = some cd) (hok : codeOk P thr fn.ntmps cd = true) (hn : args.length ≤ fn.ntmps) (hc : c ≤ c')
    (h : CW P W thr cd (St.init args tp c) (Ends P fn fun r τ => erp r = d ∧ τ.tp = tp' ∧ τ.c = c')) : Ft P W f args tp c d tp' c' := by
  refine ⟨hc, fun E w vs hbox hEc hg htops hfresh htop hvs => ?_⟩
  refine calls_of_wp hf hb ?_
  have hsim : Sim W E w (Tops E) fn.ntmps (St.init args tp c) E { tmps := vs.toArray ++ Array.replicate (fn.ntmps - vs.toArray.size) undef, defers := [] } w := by
    refine ⟨⟨⟨fun k g b hb => (by rw [hbox] at hb; cases hb), fun k g k' g' b hb => (by rw [hbox] at hb; cases hb), fun k g b k' T hb => (by rw [hbox] at hb; cases hb)⟩, htop, hfresh, Kp.refl _ w, Ext.refl _ _, hEc, fun _ _ _ => rfl, hg, hg.size, htops⟩, ?_, rfl, fun t => init_fr hvs _ t⟩
    have := hvs.1
    simp
    omega
  refine wp_mono (code_sound hm cd _ _ hok h (fun k g hne => absurd rfl hne) _ _ _ hsim) (ends_body (fun τ E' a w' r v hs hv hr => ?_))
  obtain ⟨h1, h2, h3⟩ := hr
  have hb := hs.base
  have ht := hb.top
  rw [h2] at ht
  exact ⟨v, E'.nobox, rfl, rfl, h1 ▸ hv.nobox, ⟨ht.to, ht.at_, ht.inj⟩, hb.fresh, hb.kp, ⟨hb.ext.pr, hb.ext.cell, fun k g b hh => (by rw [hbox] at hh; cases hh), hb.ext.top, hb.ext.c⟩, hb.c.trans h3, hb.old⟩
end
end Go.Sh
