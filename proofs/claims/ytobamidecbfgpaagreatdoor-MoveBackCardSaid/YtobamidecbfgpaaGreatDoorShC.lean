/- Drawn regions whose stores commute with loads of other places: the code's soundness once more, with an invariant of pointers. No condition. -/
import Derived.Test.YtobamidecbfgpaaGreatDoorShB
namespace Go.Sh.G
open Go Go.Sh Go.RowKit
set_option linter.unusedVariables false
inductive PK
  | box (k : Nat)
  | rp
def Good (ptr : Nat → Option PK) (σ : St) : Prop := ∀ t k g o, σ.fr t = .p k g o → ptr t ≠ some .rp ∧ ∀ k', ptr t = some (.box k') → k = k'
def Inv (ptr : Nat → Option PK) (σ : St) : Prop := Wf σ ∧ Good ptr σ
def keeps (ptr : Nat → Option PK) (o : Oper) : Bool :=
  match o.dst with
  | none => true
  | some t => match ptr t with
    | none => true
    | some (.box k) => match o.op with
      | .alloc _ => t == k
      | .box _ _ => t == k
      | _ => false
    | some .rp => match o.op with
      | .indexAddr _ _ _ => true
      | _ => false
def ptrOf (ptr : Nat → Option PK) : Operand → Option PK
  | .tmp t => ptr t
  | _ => none
/-- May a load go behind a store that it stood ahead of? -/
def apartLd (ptr : Nat → Option PK) (x a : Operand) : Bool :=
  match ptrOf ptr x, ptrOf ptr a with
  | some .rp, _ => true
  | some (.box k), some (.box k') => k != k'
  | _, _ => false
def early (thr : FuncId → Bool) (ptr : Nat → Option PK) (ops : Array Oper) (x y : Oper) : Bool :=
  Oper.apart ops x y && !isStore x.op && !isSer thr x.op && match y.op with
    | .store _ a _ => match x.op with
      | .load _ b => apartLd ptr b a
      | op => !isLoad op
    | _ => false
def indep (thr : FuncId → Bool) (ptr : Nat → Option PK) (ops : Array Oper) (x y : Oper) : Bool := Go.Sh.indep thr ops x y || early thr ptr ops x y
section
variable {P : Program} {W : World} {thr : FuncId → Bool} {ptr : Nat → Option PK} {E0 : Env} {w0 : World} {M : Nat → Prop} {N : Nat} {σ σ' : St} {E : Env} {a : Act} {w : World} {ops : Array Oper}
theorem put_fr (σ : St) (t : Option Tmp) (d : D) : (σ.put t d).fr = updo σ.fr t d := by cases t <;> rfl
theorem app_fr (σ : St) (t : Option Tmp) (d : D) (tp' c') : (σ.app t d tp' c').fr = updo σ.fr t d := by unfold St.app; cases t <;> rfl
/-- What a step does to the frame. -/
theorem step_fr {o : Oper} (h : stepR P W thr ops o σ σ') : σ'.fr = σ.fr ∨ ∃ d, σ'.fr = updo σ.fr o.dst d ∧ ((∃ t x, o.op = .alloc t ∨ o.op = .box t x) → d = .tu [] ∨ ∃ k g, o.dst = some k ∧ d = .p k g 0) ∧ ((∃ t x i, o.op = .indexAddr t x i) → d = .tu [] ∨ ∃ e, d = .rp e) := by
  unfold stepR at h
  split at h
  · by_cases hp : plain o.op = true
    · obtain ⟨d, hd, rfl⟩ := (bodyR_plain hp).1 h
      refine .inr ⟨d, put_fr _ _ _, ?_, ?_⟩
      · rintro ⟨t, x, e | e⟩ <;> rw [e] at hp <;> cases hp
      · rintro ⟨t, x, i, e⟩
        rw [e] at hd
        simp only [opD, indexD] at hd
        split at hd
        · split at hd
          · injection hd with hd; exact .inr ⟨_, hd.symm⟩
          · cases hd
        · cases hd
    unfold bodyR at h
    split at h
    · rename_i t ho
      obtain ⟨k, z, hk, _, _, rfl⟩ := h
      exact .inr ⟨.p k σ.c 0, by rw [hk]; rfl, fun _ => .inr ⟨k, σ.c, hk, rfl⟩, fun ⟨_, _, _, e⟩ => (by rw [ho] at e; cases e)⟩
    · rename_i t x ho
      obtain ⟨k, hk, _, rfl⟩ := h
      exact .inr ⟨.p k σ.c 0, by rw [hk]; rfl, fun _ => .inr ⟨k, σ.c, hk, rfl⟩, fun ⟨_, _, _, e⟩ => (by rw [ho] at e; cases e)⟩
    · obtain ⟨k, g, p, c, _, _, _, hb, _, _, rfl⟩ := h
      exact .inl rfl
    · rename_i f args tys ho
      rcases h with ⟨_, d, _, rfl⟩ | ⟨_, d, tp', c', hfn, rfl⟩
      · exact .inr ⟨d, put_fr _ _ _, fun ⟨_, _, e⟩ => (by rcases e with e | e <;> (rw [ho] at e; cases e)), fun ⟨_, _, _, e⟩ => (by rw [ho] at e; cases e)⟩
      · exact .inr ⟨d, app_fr _ _ _ _ _, fun ⟨_, _, e⟩ => (by rcases e with e | e <;> (rw [ho] at e; cases e)), fun ⟨_, _, _, e⟩ => (by rw [ho] at e; cases e)⟩
    · rename_i t args tys ho
      obtain ⟨f, caps, d, _, _, _, rfl⟩ := h
      exact .inr ⟨d, put_fr _ _ _, fun ⟨_, _, e⟩ => (by rcases e with e | e <;> (rw [ho] at e; cases e)), fun ⟨_, _, _, e⟩ => (by rw [ho] at e; cases e)⟩
    · rename_i args tys ho
      obtain ⟨s, x, t, r, tp', c', _, _, happ, rfl⟩ := h
      exact .inr ⟨r, app_fr _ _ _ _ _, fun ⟨_, _, e⟩ => (by rcases e with e | e <;> (rw [ho] at e; cases e)), fun ⟨_, _, _, e⟩ => (by rw [ho] at e; cases e)⟩
    · rename_i n1 n2 n3 n4 n6 n5
      refine absurd ?_ hp
      unfold plain
      split
      · exact absurd (by assumption) (n1 _)
      · exact absurd (by assumption) (n2 _ _)
      · exact absurd (by assumption) (n3 _ _ _)
      · exact absurd (by assumption) (n4 _ _ _)
      · exact absurd (by assumption) (n6 _ _ _)
      · exact absurd (by assumption) (n5 _ _)
      · rfl
  · subst h
    exact .inr ⟨.tu [], put_fr _ _ _, fun _ => .inl rfl, fun _ => .inl rfl⟩
  · exact h.elim
theorem inv_step {o : Oper} (hk : keeps ptr o = true) (hi : Inv ptr σ) (h : stepR P W thr ops o σ σ') : Inv ptr σ' := by
  refine ⟨wf_step hi.1 h, fun t k g p ht => ?_⟩
  rcases step_fr h with he | ⟨d, he, hn, hx⟩
  · exact hi.2 t k g p (by rw [← he]; exact ht)
  · rw [he] at ht
    cases hd : o.dst with
    | none => rw [hd] at ht; exact hi.2 t k g p ht
    | some t' =>
      rw [hd] at ht
      simp only [updo, upd] at ht
      split at ht
      · rename_i htt
        subst htt
        unfold keeps at hk
        simp only [hd] at hk
        cases hp : ptr t with
        | none => exact ⟨by simp, by simp⟩
        | some q =>
          rw [hp] at hk
          cases q with
          | box k' =>
            simp only at hk
            split at hk
            · rename_i ty ho
              rcases hn ⟨ty, .tmp 0, .inl ho⟩ with e | ⟨k2, g2, e1, e2⟩
              · rw [e] at ht; cases ht
              · rw [e2] at ht
                rw [hd] at e1
                injection e1 with e1
                injection ht with h1
                exact ⟨by simp, fun k'' e => by injection e with e; injection e with e; rw [← h1, ← e1, ← e]; exact beq_iff_eq.1 hk⟩
            · rename_i ty x ho
              rcases hn ⟨ty, x, .inr ho⟩ with e | ⟨k2, g2, e1, e2⟩
              · rw [e] at ht; cases ht
              · rw [e2] at ht
                rw [hd] at e1
                injection e1 with e1
                injection ht with h1
                exact ⟨by simp, fun k'' e => by injection e with e; injection e with e; rw [← h1, ← e1, ← e]; exact beq_iff_eq.1 hk⟩
            · cases hk
          | rp =>
            simp only at hk
            split at hk
            · rename_i ty x i ho
              rcases hx ⟨ty, x, i, ho⟩ with e | ⟨e, e2⟩
              · rw [e] at ht; cases ht
              · rw [e2] at ht; cases ht
            · cases hk
      · exact hi.2 t k g p ht
theorem load_apart {ty k g : Nat} {bx : Nat → Nat → Option D} {z : Option D} {d r : D} (h : loadD P bx ty d = some r) (hne : ∀ k' g' o', d = .p k' g' o' → k' ≠ k) : loadD P (upd2 bx k g z) ty d = some r := by
  unfold loadD at h ⊢
  split at h
  · exact h
  · rename_i td n k1 g1 o1 hu hs
    have := hne k1 g1 o1 rfl
    unfold upd2
    rw [if_neg (fun e => this e.1)]
    exact h
  · cases h
theorem step_load {o : Oper} {ty : TypeId} {b : Operand} {dx : D} {k g : Nat} {z : D} (ho : o.op = .load ty b) (h : stepR P W thr ops o σ (σ.put o.dst dx)) (hne : ∀ k' g' o', σ.ev b = .p k' g' o' → k' ≠ k) : stepR P W thr ops o (σ.setBox k g z) ((σ.put o.dst dx).setBox k g z) := by
  unfold stepR at h ⊢
  have hw0 : wantD ops (σ.setBox k g z).fr o = wantD ops σ.fr o := rfl
  rw [hw0]
  split at h
  · have hp : plain o.op = true := by rw [ho]; rfl
    obtain ⟨d, hd, he⟩ := (bodyR_plain hp).1 h
    refine (bodyR_plain hp).2 ⟨d, ?_, ?_⟩
    · rw [ho] at hd ⊢
      exact load_apart hd hne
    · rw [he]; cases o.dst <;> rfl
  · show (σ.put o.dst dx).setBox k g z = (σ.setBox k g z).put o.dst (.tu [])
    rw [h]; cases o.dst <;> rfl
  · exact h.elim
/-- The second one first. -/
theorem swap {x y : Oper} {σ σ1 σ2 : St} (hi : indep thr ptr ops x y = true) (hinv : Inv ptr σ) (h1 : stepR P W thr ops x σ σ1) (h2 : stepR P W thr ops y σ1 σ2) : ∃ τ, stepR P W thr ops y σ τ ∧ stepR P W thr ops x τ σ2 := by
  unfold indep at hi
  rw [Bool.or_eq_true] at hi
  rcases hi with hi | hi
  · exact Go.Sh.swap hi hinv.1 h1 h2
  unfold early at hi
  simp only [Bool.and_eq_true, Bool.not_eq_true'] at hi
  obtain ⟨⟨⟨hap, hsx⟩, hser⟩, hy⟩ := hi
  obtain ⟨a1, a2, a3⟩ := Oper.apart_spec hap
  obtain ⟨dx, he1, hx⟩ := quiet_form hser hsx h1
  have h1' := h1
  rw [he1] at h1'
  subst he1
  split at hy
  case h_2 => cases hy
  rename_i t ad v ho
  have lky : Like ops y (σ.put x.dst dx) σ := fun s hs => (put_fr_ne (fun e => a1 s e hs)).symm
  -- the store at the earlier state
  unfold stepR at h2
  split at h2
  · rename_i hw
    unfold bodyR at h2
    rw [ho] at h2
    obtain ⟨k, g, p, cc, e1, e2, e3, e4, e5, e6, rfl⟩ := h2
    have ea : σ.ev ad = (σ.put x.dst dx).ev ad := like_ev lky (by rw [ho]; simp [Op.operands])
    have ev : σ.ev v = (σ.put x.dst dx).ev v := like_ev lky (by rw [ho]; simp [Op.operands])
    have eb : (σ.put x.dst dx).bx = σ.bx := by cases x.dst <;> rfl
    refine ⟨σ.setBox k g (setc cc p (σ.ev v)), ?_, ?_⟩
    · unfold stepR
      rw [like_want lky, hw]
      unfold bodyR
      rw [ho]
      exact ⟨k, g, p, cc, by rw [ea]; exact e1, e2, by rw [ev]; exact e3, by rw [← eb]; exact e4, by rw [ev]; exact e5, by rw [ev]; exact e6, rfl⟩
    · rw [← ev]
      split at hy
      · rename_i ty b hxo
        refine step_load hxo h1' (fun k' g' o' hb => ?_)
        have ha : σ.ev ad = .p k g p := by rw [ea]; exact e1
        unfold apartLd at hy
        split at hy
        · rename_i hp
          cases b with
          | tmp t' => exact absurd hp (hinv.2 t' k' g' o' hb).1
          | _ => cases hp
        · rename_i k1 k2 hp1 hp2
          cases b with
          | tmp t' =>
            cases ad with
            | tmp t2 =>
              rw [(hinv.2 t' k' g' o' hb).2 k1 hp1, (hinv.2 t2 k g p ha).2 k2 hp2]
              simpa using hy
            | _ => cases hp2
          | _ => cases hp1
        · cases hy
      · have hq := hx (σ.setBox k g (setc cc p (σ.ev v))) (fun s hs => rfl) (fun hl => by rw [hl] at hy; cases hy)
        have : (σ.setBox k g (setc cc p (σ.ev v))).put x.dst dx = (σ.put x.dst dx).setBox k g (setc cc p (σ.ev v)) := by cases x.dst <;> rfl
        rw [this] at hq
        exact hq
  · rename_i hw
    subst h2
    have lkx : Like ops x σ (σ.put y.dst (.tu [])) := fun s hs => put_fr_ne (fun e => a3 s e hs)
    refine ⟨σ.put y.dst (.tu []), ?_, ?_⟩
    · unfold stepR
      rw [like_want lky, hw]
    · have hq := hx (σ.put y.dst (.tu [])) lkx (fun _ k g c hc => by cases y.dst <;> exact hc)
      have he : (σ.put x.dst dx).put y.dst (.tu []) = (σ.put y.dst (.tu [])).put x.dst dx := by
        have := updo_comm a2 σ.fr dx (.tu [])
        cases hxd : x.dst <;> cases hyd : y.dst <;> rw [hxd, hyd] at this <;> first | rfl | exact congrArg (fun fr => (⟨fr, σ.bx, σ.tp, σ.c⟩ : St)) this
      rw [he]
      exact hq
  · exact h2.elim
theorem ch_front (hkp : ∀ o ∈ ops, keeps ptr o = true) {i : Nat} {B : List Nat} {τ : St} : ∀ (A : List Nat) (σ : St), Ch P W thr ops (A ++ i :: B) σ τ → (∀ j ∈ A, ∀ oj oi, ops[j]? = some oj → ops[i]? = some oi → indep thr ptr ops oj oi = true) → Inv ptr σ →
    ∃ σ1 oi, ops[i]? = some oi ∧ stepR P W thr ops oi σ σ1 ∧ Ch P W thr ops (A ++ B) σ1 τ
  | [], σ, h, _, _ => by
    cases h with
    | cons ho hs ht => exact ⟨_, _, ho, hs, ht⟩
  | j :: A, σ, h, hi, hwf => by
    cases h with
    | @cons _ _ oj _ σ' _ ho hs ht =>
      obtain ⟨σ1, oi, h1, h2, h3⟩ := ch_front hkp A σ' ht (fun k hk => hi k (List.mem_cons_of_mem _ hk)) (inv_step (hkp _ (Array.mem_of_getElem? ho)) hwf hs)
      obtain ⟨τ', h4, h5⟩ := swap (hi j List.mem_cons_self oj oi ho h1) hwf hs h2
      exact ⟨τ', oi, h1, h4, .cons ho h5 h3⟩
def ordOk (thr : FuncId → Bool) (ptr : Nat → Option PK) (ops : Array Oper) : Bool :=
  (List.range ops.size).all fun i => match ops[i]? with
    | some oi => (preds oi).all (fun j => decide (j < i)) && (List.range i).all fun j => match ops[j]? with
      | some oj => ((ancs ops.toList []).getD i []).contains j || indep thr ptr ops oj oi
      | none => true
    | none => true
theorem any_sound (hkp : ∀ o ∈ ops, keeps ptr o = true) (hok : ∀ o ∈ ops, opOk P N o = true) (hord : ordOk thr ptr ops = true) {Q : Exit → Act → World → Prop} {τ : St} (hQ : ∀ E a w, Sim W E0 w0 M N τ E a w → Q .normal a w) : ∀ (fuel : Nat) (listed : Array Bool) (σ : St) (E : Env) (a : Act) (w : World), listed.size = ops.size →
    Ch P W thr ops (rem ops.size listed) σ τ → (∀ i, i < ops.size → listed.getD i true = true → ∀ o, ops[i]? = some o → ∀ j ∈ preds o, listed.getD j false = true) → Inv ptr σ → Sim W E0 w0 M N σ E a w → (rem ops.size listed).length ≤ fuel → wpAny P .any ops Q fuel listed a w := by
  have hspec : ∀ i oi, ops[i]? = some oi → (∀ j ∈ preds oi, j < i) ∧ ∀ j oj, j < i → ops[j]? = some oj → Anc ops j i ∨ indep thr ptr ops oj oi = true := by
    intro i oi hi
    have hlt : i < ops.size := (Array.getElem?_eq_some_iff.1 hi).1
    have h1 := List.all_eq_true.1 hord i (List.mem_range.2 hlt)
    simp only [hi, Bool.and_eq_true] at h1
    refine ⟨fun j hj => by simpa using List.all_eq_true.1 h1.1 j hj, fun j oj hj hoj => ?_⟩
    have h2 := List.all_eq_true.1 h1.2 j (List.mem_range.2 hj)
    simp only [hoj, Bool.or_eq_true] at h2
    rcases h2 with h2 | h2
    · exact .inl (ancs_spec ops ops.toList [] (fun j hj => by simp) (fun i j hj => by simp [List.getD] at hj) i j (by simpa using h2))
    · exact .inr h2
  have hready_rem : ∀ listed i, i ∈ Region.ready .any ops listed → i ∈ rem ops.size listed ∧ ∃ o, ops[i]? = some o ∧ ∀ j ∈ preds o, listed.getD j false = true := by
    intro listed i hi
    obtain ⟨h0, o, ho, hall⟩ := mem_ready.1 hi
    refine ⟨mem_rem.2 ⟨(Array.getElem?_eq_some_iff.1 ho).1, h0⟩, o, ho, fun j hj => ?_⟩
    obtain ⟨e, he, rfl⟩ := List.mem_map.1 hj
    obtain ⟨he1, he2⟩ := List.mem_filter.1 he
    exact hall e (by simpa using he1) (by simpa using he2)
  have hempty : ∀ (listed : Array Bool), listed.size = ops.size → Region.ready .any ops listed = [] → rem ops.size listed = [] := by
    intro listed hs hr
    cases hrem : rem ops.size listed with
    | nil => rfl
    | cons i l =>
      exfalso
      have key : ∀ i, i ∉ rem ops.size listed := by
        intro i
        induction i using Nat.strongRecOn with
        | _ i ih =>
          intro hi
          obtain ⟨hlt, h0⟩ := mem_rem.1 hi
          have hm : i ∈ Region.ready .any ops listed := by
            refine mem_ready.2 ⟨h0, ops[i], by simp [hlt], fun e he hb => ?_⟩
            have hp : e.on ∈ preds ops[i] := List.mem_map.2 ⟨e, List.mem_filter.2 ⟨by simpa using he, by simpa using hb⟩, rfl⟩
            have hlt' := (hspec i ops[i] (by simp [hlt])).1 e.on hp
            have hn := ih e.on hlt'
            have : listed.getD e.on true = true := by
              cases hc : listed.getD e.on true with
              | true => rfl
              | false => exact absurd (mem_rem.2 ⟨by omega, hc⟩) hn
            have hl : e.on < listed.size := by omega
            simp [hl] at this ⊢
            exact this
          rw [hr] at hm
          cases hm
      exact key i (by rw [hrem]; exact List.mem_cons_self)
  intro fuel
  induction fuel with
  | zero =>
    intro listed σ E a w hs hc hdown hwf hsim hf
    have hr : rem ops.size listed = [] := List.eq_nil_of_length_eq_zero (by omega)
    rw [hr] at hc
    cases hc
    refine ⟨?_, hQ _ _ _ hsim⟩
    cases hready : Region.ready .any ops listed with
    | nil => rfl
    | cons i l =>
      have := (hready_rem listed i (by rw [hready]; exact List.mem_cons_self)).1
      rw [hr] at this
      cases this
  | succ fuel ih =>
    intro listed σ E a w hs hc hdown hwf hsim hf
    refine ⟨fun hr => ?_, fun i hi => ?_⟩
    · rw [hempty listed hs hr] at hc
      cases hc
      exact hQ _ _ _ hsim
    · obtain ⟨hmem, o, ho, hpre⟩ := hready_rem listed i hi
      obtain ⟨A, B, hAB⟩ := List.append_of_mem hmem
      rw [hAB] at hc
      have hsorted : (rem ops.size listed).Pairwise (· < ·) := List.Pairwise.filter _ List.pairwise_lt_range
      have hind : ∀ j ∈ A, ∀ oj oi, ops[j]? = some oj → ops[i]? = some oi → indep thr ptr ops oj oi = true := by
        intro j hj oj oi hoj hoi
        have hji : j < i := by
          rw [hAB] at hsorted
          exact (List.pairwise_append.1 hsorted).2.2 j hj i List.mem_cons_self
        have hjr : listed.getD j true = false := (mem_rem.1 (by rw [hAB]; exact List.mem_append_left _ hj)).2
        rcases (hspec i oi hoi).2 j oj hji hoj with hanc | hin
        · exfalso
          have key : ∀ j i, Anc ops j i → ∀ o, ops[i]? = some o → (∀ k ∈ preds o, listed.getD k false = true) → listed.getD j false = true := by
            intro j i hanc
            induction hanc with
            | @one i o ho h =>
              intro o' ho' hk
              rw [ho] at ho'
              injection ho' with ho'
              subst ho'
              exact hk _ h
            | @step k i o h ho hk ih =>
              intro o' ho' hall
              rw [ho] at ho'
              injection ho' with ho'
              subst ho'
              have hkl := hall _ hk
              have hks : k < listed.size := by
                rcases Nat.lt_or_ge k listed.size with h' | h'
                · exact h'
                · simp [Array.getElem?_eq_none h'] at hkl
              have hkop : ops[k]? = some (ops[k]'(by omega)) := by simp [show k < ops.size by omega]
              refine ih _ hkop (fun q hq => ?_)
              exact hdown k (by omega) (by simp [hks] at hkl ⊢; exact hkl) _ hkop q hq
          have h1 := key j i hanc o ho hpre
          rcases Nat.lt_or_ge j listed.size with h' | h'
          · simp [h'] at h1 hjr
            rw [hjr] at h1
            cases h1
          · simp [Array.getElem?_eq_none h'] at h1
        · exact hin
      obtain ⟨σ1, oi, h1, h2, h3⟩ := ch_front hkp A σ hc hind hwf
      refine stepR_sound h1 (hok oi (Array.mem_of_getElem? h1)) hsim h2 (fun E' a' w' hsim' => ?_)
      refine ih (listed.setIfInBounds i true) σ1 E' a' w' (by simpa using hs) (by rw [rem_set hs hAB]; exact h3) (fun q hq hlq oq hoq j hj => ?_) (inv_step (hkp _ (Array.mem_of_getElem? h1)) hwf h2) hsim' ?_
      · refine getD_set_true ?_
        by_cases hqi : q = i
        · subst hqi
          rw [ho] at hoq
          injection hoq with hoq
          subst hoq
          exact hpre j hj
        · rw [getD_set_ne true (Ne.symm hqi)] at hlq
          exact hdown q hq hlq oq hoq j hj
      · rw [rem_set hs hAB]
        rw [hAB] at hf
        simp at hf ⊢
        omega
theorem region_sound (hkp : ∀ o ∈ ops, keeps ptr o = true) {id : Nat} {draw : Bool} (hm : P.follows .mixedOrders = true) (hok : ∀ o ∈ ops, opOk P N o = true) (hord : draw = true → ordOk thr ptr ops = true) {R : St → Prop} (h : RW P W thr ops ops.toList σ R) (hwf : Inv ptr σ) (hsim : Sim W E0 w0 M N σ E a w)
    {Q : Exit → Act → World → Prop} (hQ : ∀ τ E a w, R τ → Inv ptr τ → Sim W E0 w0 M N τ E a w → Q .normal a w) : (Code.region id ops draw).wp P Q a w := by
  obtain ⟨τ, hc, hR⟩ := RW_ch ops.toList 0 σ (fun j hj => by simp) h
  have hwfτ : Inv ptr τ := by
    clear h hR hQ hsim
    revert hwf
    generalize List.range' 0 ops.toList.length = l at hc
    induction hc with
    | nil σ => exact fun h => h
    | cons ho hs ht ih => exact fun h => ih (inv_step (hkp _ (Array.mem_of_getElem? ho)) h hs)
  have hl : List.range' 0 ops.toList.length = List.range ops.size := by rw [List.range_eq_range', Array.length_toList]
  rw [hl] at hc
  cases draw with
  | false => exact wp_region (ch_sound hok _ _ hc E a w hsim fun E a w hs => hQ τ E a w hR hwfτ hs)
  | true =>
    refine wp_region_any hm (any_sound hkp hok (hord rfl) (fun E a w hs => hQ τ E a w hR hwfτ hs) _ _ σ E a _ (by simp) ?_ (fun i hi hli => ?_) hwf ?_ ?_)
    · have : rem ops.size (Array.replicate ops.size false) = List.range ops.size := by
        unfold rem
        exact List.filter_eq_self.2 fun i hi => by simp [List.mem_range.1 hi]
      rw [this]
      exact hc
    · simp [hi] at hli
    · have hq : Qs E w E { w with drawn := w.drawn + 1 } := ⟨⟨fun _ => Nat.le_refl _, fun _ _ _ => rfl, fun _ _ _ h => h, fun _ _ h _ => h, Nat.le_refl _⟩, ⟨rfl, rfl, rfl, Nat.le_refl _, fun _ _ => rfl⟩, rfl, rfl, rfl, fun _ _ => rfl, hsim.base.fresh⟩
      exact ⟨hsim.base.q hq, hsim.size, hsim.defers, fun t => (hsim.fr t).ext hq.ext⟩
    · have : (rem ops.size (Array.replicate ops.size false)).length ≤ (List.range ops.size).length := List.length_filter_le _ _
      simpa using this
def codeOk (P : Program) (thr : FuncId → Bool) (ptr : Nat → Option PK) (N : Nat) : Code → Bool
  | .region _ ops draw => (ops.all (opOk P N) && ops.all (keeps ptr)) && (!draw || ordOk thr ptr ops)
  | .seq a b => codeOk P thr ptr N a && codeOk P thr ptr N b
  | .cond _ a b => codeOk P thr ptr N a && codeOk P thr ptr N b
  | .block _ b => codeOk P thr ptr N b
  | .loop b => codeOk P thr ptr N b
  | _ => true
def Post (ptr : Nat → Option PK) (W : World) (E0 : Env) (w0 : World) (M : Nat → Prop) (N : Nat) (Q : Exit → St → Prop) : Exit → Act → World → Prop := fun x a w => ∃ τ E, Inv ptr τ ∧ Sim W E0 w0 M N τ E a w ∧ Q x τ
theorem code_sound (hm : P.follows .mixedOrders = true) : ∀ (c : Code) (σ : St) (Q : Exit → St → Prop), codeOk P thr ptr N c = true → CW P W thr c σ Q → Inv ptr σ → ∀ (E : Env) (a : Act) (w : World), Sim W E0 w0 M N σ E a w → c.wp P (Post ptr W E0 w0 M N Q) a w
  | .skip, σ, Q, _, h, hwf, E, a, w, hs => wp_skip ⟨σ, E, hwf, hs, h⟩
  | .region id ops draw, σ, Q, hok, h, hwf, E, a, w, hs => by
    simp only [codeOk, Bool.and_eq_true, Array.all_eq_true_iff_forall_mem, Bool.or_eq_true, Bool.not_eq_true'] at hok
    exact region_sound hok.1.2 hm hok.1.1 (fun hd => hok.2.resolve_left (by simp [hd])) h hwf hs fun τ E a w hR hwfτ hsτ => ⟨τ, E, hwfτ, hsτ, hR⟩
  | .seq x y, σ, Q, hok, h, hwf, E, a, w, hs => by
    simp only [codeOk, Bool.and_eq_true] at hok
    refine wp_seq (wp_mono (code_sound hm x σ _ hok.1 h hwf E a w hs) ?_)
    rintro e a' w' ⟨τ, E', hwf', hs', hq⟩
    cases e with
    | normal => exact code_sound hm y τ Q hok.2 hq hwf' E' a' w' hs'
    | _ => exact ⟨τ, E', hwf', hs', hq⟩
  | .cond c x y, σ, Q, hok, h, hwf, E, a, w, hs => by
    simp only [codeOk, Bool.and_eq_true] at hok
    unfold CW at h
    have hc := hs.ev c
    split at h
    · rename_i he
      rw [he] at hc
      generalize hq : a.eval c = v at hc
      cases hc
      exact wp_cond_true hq (code_sound hm x σ Q hok.1 h hwf E a w hs)
    · rename_i he
      rw [he] at hc
      generalize hq : a.eval c = v at hc
      cases hc
      exact wp_cond_false hq (code_sound hm y σ Q hok.2 h hwf E a w hs)
    · exact h.elim
  | .block id b, σ, Q, hok, h, hwf, E, a, w, hs => by
    refine wp_block (wp_mono (code_sound hm b σ _ hok h hwf E a w hs) ?_)
    rintro e a' w' ⟨τ, E', hwf', hs', hq⟩
    cases e with
    | exit i =>
      simp only [Exit.inBlock] at hq ⊢
      split
      · rename_i hi; rw [if_pos hi] at hq; exact ⟨τ, E', hwf', hs', hq⟩
      · rename_i hi; rw [if_neg hi] at hq; exact ⟨τ, E', hwf', hs', hq⟩
    | _ => exact ⟨τ, E', hwf', hs', hq⟩
  | .loop b, σ, Q, hok, ⟨I, ⟨n, h0⟩, h1⟩, hwf, E, a, w, hs => by
    refine wp_loop_n (fun n a w => ∃ τ E, Inv ptr τ ∧ Sim W E0 w0 M N τ E a w ∧ I n τ) n ⟨σ, E, hwf, hs, h0⟩ ?_
    rintro n a w ⟨τ, E, hwf', hs', hI⟩
    refine wp_mono (code_sound hm b τ _ hok (h1 n τ hI) hwf' E a w hs') ?_
    rintro e a' w' ⟨τ', E', hwf'', hs'', hq⟩
    cases e with
    | normal =>
      obtain ⟨m, hlt, hI'⟩ := hq
      exact ⟨m, hlt, τ', E', hwf'', hs'', hI'⟩
    | _ => exact ⟨τ', E', hwf'', hs'', hq⟩
  | .exit id, σ, Q, _, h, hwf, E, a, w, hs => wp_exit ⟨σ, E, hwf, hs, h⟩
  | .ret, σ, Q, _, h, hwf, E, a, w, hs => wp_ret ⟨σ, E, hwf, hs, h⟩
  | .rangeFunc _ _ _ _, σ, Q, _, h, hwf, E, a, w, hs => h.elim
  | .goto _, σ, Q, _, h, hwf, E, a, w, hs => h.elim
  | .label _, σ, Q, _, h, hwf, E, a, w, hs => h.elim
  | .scope _, σ, Q, _, h, hwf, E, a, w, hs => h.elim
  | .refuse _, σ, Q, _, h, hwf, E, a, w, hs => h.elim
/-- A function's contract. -/
theorem Fc_intro {f : FuncId} {fn : Func} {c : Code} {args : List D} {d : D} (hm : P.follows .mixedOrders = true) (hf : P.funcs[f]? = some fn) (hb : fn.body = some c) (hok : codeOk P thr ptr fn.ntmps c = true) (hp : ∀ t, t < args.length → ptr t = none) (hn : args.length ≤ fn.ntmps)
    (h : CW P W thr c (St.init args (fun _ => none) 0) (Ends P fn fun r _ => er r = d)) : Fc P W f args d := by
  intro pr w vs hg hfresh hvs
  refine calls_of_wp hf hb ?_
  have hsim : Sim W (isoE pr) w (fun _ => False) fn.ntmps (St.init args (fun _ => none) 0) (isoE pr) { tmps := vs.toArray ++ Array.replicate (fn.ntmps - vs.toArray.size) undef, defers := [] } w := by
    refine ⟨⟨⟨fun k g b hb => (by cases hb), fun k g k' g' b hb => (by cases hb), fun k g b k' T hb => (by cases hb)⟩, ⟨fun k g n ht => (by cases ht), fun k T hT => (by cases hT), fun k k' T T' hT => (by cases hT)⟩, hfresh, Kp.refl _ w, Ext.refl _ _, rfl, fun _ _ _ => rfl, hg, hg.size, fun b hb => hb.elim⟩, ?_, rfl, fun t => init_fr hvs _ t⟩
    have := hvs.1
    simp
    omega
  have hinv : Inv ptr (St.init args (fun _ => none) 0) := ⟨fun k g hne => absurd rfl hne, fun t k g o ht => by
    have ht' : args.getD t (.tu []) = .p k g o := ht
    rcases Nat.lt_or_ge t args.length with hlt | hge
    · rw [hp t hlt]; exact ⟨by simp, by simp⟩
    · rw [List.getD, List.getElem?_eq_none hge] at ht'; cases ht'⟩
  refine wp_mono (code_sound hm c _ _ hok h hinv _ _ _ hsim) (fun x a w' ⟨τ, E, hi, hs, hq⟩ => ends_body (fun τ E a w' r v hs hv hr => ?_) x a w' ⟨τ, E, hi.1, hs, hq⟩)
  have hbel : Below w.heap.size w w' := ⟨hs.base.kp.os, hs.base.kp.tape, hs.base.kp.output, hs.base.kp.size, fun b hlt => hs.base.kp.block b hlt (fun h => h)⟩
  exact ⟨v, E.pr, rfl, hr ▸ hv.iso, hbel, fun b hlt => hs.base.old b hlt (fun h => h), hs.base.fresh⟩
end
end Go.Sh.G
