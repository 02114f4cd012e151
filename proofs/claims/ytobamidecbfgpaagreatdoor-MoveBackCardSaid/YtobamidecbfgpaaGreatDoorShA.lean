/- The shadow's code: every order of a region; sequences, branches, loops (CW); functions (Fc_intro, Ft_intro). No condition. -/
import Derived.Test.YtobamidecbfgpaaGreatDoorSh9
namespace Go.Sh
open Go.RowKit
set_option linter.unusedVariables false
section
variable {P : Program} {W : World} {thr : FuncId → Bool} {E0 : Env} {w0 : World} {M : Nat → Prop} {N : Nat} {σ σ' : St} {E : Env} {a : Act} {w : World} {ops : Array Oper}
theorem wf_step {o : Oper} (hwf : Wf σ) (h : stepR P W thr ops o σ σ') : Wf σ' := by
  unfold stepR at h
  split at h
  · by_cases hp : plain o.op = true
    · obtain ⟨d, hd, rfl⟩ := (bodyR_plain hp).1 h
      exact hwf
    unfold bodyR at h
    have new : ∀ (k : Nat) (z : D), Wf (σ.newBox k z) := by
      intro k z k' g' hne
      have hne' : upd2 σ.bx k σ.c (some z) k' g' ≠ none := hne
      show g' < σ.c + 1
      unfold upd2 at hne'
      split at hne'
      · omega
      · exact Nat.lt_succ_of_lt (hwf k' g' hne')
    split at h
    · obtain ⟨k, z, _, _, _, rfl⟩ := h
      exact new k z
    · obtain ⟨k, _, _, rfl⟩ := h
      exact new k _
    · obtain ⟨k, g, p, c, _, _, _, hb, _, _, rfl⟩ := h
      intro k' g' hne
      have hne' : upd2 σ.bx k g (some (setc c p (σ.ev _))) k' g' ≠ none := hne
      show g' < σ.c
      unfold upd2 at hne'
      split at hne'
      · rename_i hh
        rw [hh.2]
        exact hwf k g (by rw [hb]; simp)
      · exact hwf k' g' hne'
    · rcases h with ⟨_, d, _, rfl⟩ | ⟨_, d, tp', c', hfn, rfl⟩
      · exact hwf
      · exact fun k' g' hne => Nat.lt_of_lt_of_le (hwf k' g' hne) hfn.1
    · obtain ⟨f, caps, d, _, _, _, rfl⟩ := h
      exact hwf
    · obtain ⟨s, x, t, r, tp', c', _, _, happ, rfl⟩ := h
      have : σ.c ≤ c' := by
        unfold appD at happ
        split at happ
        · split at happ
          · split at happ
            · split at happ
              · injection happ with h1
                injection h1 with h1 h2
                injection h2 with h2 h3
                omega
              · split at happ
                · injection happ with h1
                  injection h1 with h1 h2
                  injection h2 with h2 h3
                  omega
                · cases happ
            · cases happ
          · cases happ
        · cases happ
      exact fun k' g' hne => Nat.lt_of_lt_of_le (hwf k' g' hne) this
    · rename_i n1 n2 n3 n4 n6 n5
      refine absurd ?_ hp
      unfold plain
      split
      · exact absurd (by assumption) (n1 _)
      · exact absurd (by assumption) (n2 _ _)
      · exact absurd (by assumption) (n3 _ _ _)
      · exact absurd (by assumption) (n4 _ _ _)
      · exact absurd (by assumption) (n6 _ _ _)
      · exact absurd (by assumption) (n5 _ _)
      · rfl
  · subst h
    exact hwf
  · exact h.elim
theorem ch_front {i : Nat} {B : List Nat} {τ : St} : ∀ (A : List Nat) (σ : St), Ch P W thr ops (A ++ i :: B) σ τ → (∀ j ∈ A, ∀ oj oi, ops[j]? = some oj → ops[i]? = some oi → indep thr ops oj oi = true) → Wf σ →
    ∃ σ1 oi, ops[i]? = some oi ∧ stepR P W thr ops oi σ σ1 ∧ Ch P W thr ops (A ++ B) σ1 τ
  | [], σ, h, _, _ => by
    cases h with
    | cons ho hs ht => exact ⟨_, _, ho, hs, ht⟩
  | j :: A, σ, h, hi, hwf => by
    cases h with
    | @cons _ _ oj _ σ' _ ho hs ht =>
      obtain ⟨σ1, oi, h1, h2, h3⟩ := ch_front A σ' ht (fun k hk => hi k (List.mem_cons_of_mem _ hk)) (wf_step hwf hs)
      obtain ⟨τ', h4, h5⟩ := swap (hi j List.mem_cons_self oj oi ho h1) hwf hs h2
      exact ⟨τ', oi, h1, h4, .cons ho h5 h3⟩
def preds (o : Oper) : List Nat := (o.after.toList.filter fun e => Region.binds .any e).map (·.on)
inductive Anc (ops : Array Oper) : Nat → Nat → Prop
  | one {j i : Nat} {o : Oper} (ho : ops[i]? = some o) (h : j ∈ preds o) : Anc ops j i
  | step {j k i : Nat} {o : Oper} (h : Anc ops j k) (ho : ops[i]? = some o) (hk : k ∈ preds o) : Anc ops j i
def ancs (l : List Oper) (acc : List (List Nat)) : List (List Nat) := l.foldl (fun acc o => acc ++ [preds o ++ (preds o).flatMap fun j => acc.getD j []]) acc
theorem ancs_spec (ops : Array Oper) : ∀ (l : List Oper) (acc : List (List Nat)), (∀ j, j < l.length → ops[acc.length + j]? = l[j]?) → (∀ i, ∀ j ∈ acc.getD i [], Anc ops j i) → ∀ i, ∀ j ∈ (ancs l acc).getD i [], Anc ops j i
  | [], acc, _, h => h
  | o :: l, acc, hl, h => by
    have h0 : ops[acc.length]? = some o := by have := hl 0 (by simp); simpa using this
    refine ancs_spec ops l (acc ++ [preds o ++ (preds o).flatMap fun j => acc.getD j []]) (fun j hj => ?_) (fun i j hj => ?_)
    · have := hl (j + 1) (by simpa using hj)
      rw [List.length_append, List.length_singleton, Nat.add_assoc, Nat.add_comm 1 j]
      simpa using this
    · rw [getD_append] at hj
      split at hj
      · exact h i j hj
      · by_cases he : i = acc.length
        · subst he
          simp only [Nat.sub_self, List.getD, List.getElem?_cons_zero, Option.getD_some] at hj
          rcases List.mem_append.1 hj with hj | hj
          · exact .one h0 hj
          · obtain ⟨k, hk, hjk⟩ := List.mem_flatMap.1 hj
            exact .step (h k j hjk) h0 hk
        · have : (i - acc.length) ≠ 0 := by omega
          obtain ⟨q, hq⟩ := Nat.exists_eq_succ_of_ne_zero this
          rw [hq] at hj
          simp [List.getD] at hj
def ordOk (thr : FuncId → Bool) (ops : Array Oper) : Bool :=
  (List.range ops.size).all fun i => match ops[i]? with
    | some oi => (preds oi).all (fun j => decide (j < i)) && (List.range i).all fun j => match ops[j]? with
      | some oj => ((ancs ops.toList []).getD i []).contains j || indep thr ops oj oi
      | none => true
    | none => true
def rem (n : Nat) (listed : Array Bool) : List Nat := (List.range n).filter fun i => !listed.getD i true
theorem mem_rem {n i : Nat} {listed : Array Bool} : i ∈ rem n listed ↔ i < n ∧ listed.getD i true = false := by simp [rem]
theorem rem_set {n i : Nat} {listed : Array Bool} (hs : listed.size = n) {A B : List Nat} (h : rem n listed = A ++ i :: B) : rem n (listed.setIfInBounds i true) = A ++ B := by
  have hnd : (rem n listed).Nodup := List.Pairwise.filter _ List.nodup_range
  rw [h] at hnd
  have hlt : i < n := (mem_rem.1 (by rw [h]; simp)).1
  have e : rem n (listed.setIfInBounds i true) = (rem n listed).filter (fun j => decide (j ≠ i)) := by
    unfold rem
    rw [List.filter_filter]
    apply List.filter_congr
    intro j hj
    by_cases hji : j = i
    · subst hji
      simp [show j < listed.size by omega]
    · rw [getD_set_ne true (Ne.symm hji)]
      simp [hji]
  rw [e, h, List.filter_append, List.filter_cons, if_neg (by simp)]
  have hA : A.filter (fun j => decide (j ≠ i)) = A := List.filter_eq_self.2 fun j hj => by
    have := (List.nodup_append.1 hnd).2.2 j hj i List.mem_cons_self
    simpa using this
  have hB : B.filter (fun j => decide (j ≠ i)) = B := List.filter_eq_self.2 fun j hj => by
    have := (List.nodup_cons.1 (List.nodup_append.1 hnd).2.1).1
    simp only [ne_eq, decide_eq_true_eq]
    rintro rfl
    exact this hj
  rw [hA, hB]
theorem any_sound (hok : ∀ o ∈ ops, opOk P N o = true) (hord : ordOk thr ops = true) {Q : Exit → Act → World → Prop} {τ : St} (hQ : ∀ E a w, Sim W E0 w0 M N τ E a w → Q .normal a w) : ∀ (fuel : Nat) (listed : Array Bool) (σ : St) (E : Env) (a : Act) (w : World), listed.size = ops.size →
    Ch P W thr ops (rem ops.size listed) σ τ → (∀ i, i < ops.size → listed.getD i true = true → ∀ o, ops[i]? = some o → ∀ j ∈ preds o, listed.getD j false = true) → Wf σ → Sim W E0 w0 M N σ E a w → (rem ops.size listed).length ≤ fuel → wpAny P .any ops Q fuel listed a w := by
  have hspec : ∀ i oi, ops[i]? = some oi → (∀ j ∈ preds oi, j < i) ∧ ∀ j oj, j < i → ops[j]? = some oj → Anc ops j i ∨ indep thr ops oj oi = true := by
    intro i oi hi
    have hlt : i < ops.size := (Array.getElem?_eq_some_iff.1 hi).1
    have h1 := List.all_eq_true.1 hord i (List.mem_range.2 hlt)
    simp only [hi, Bool.and_eq_true] at h1
    refine ⟨fun j hj => by simpa using List.all_eq_true.1 h1.1 j hj, fun j oj hj hoj => ?_⟩
    have h2 := List.all_eq_true.1 h1.2 j (List.mem_range.2 hj)
    simp only [hoj, Bool.or_eq_true] at h2
    rcases h2 with h2 | h2
    · exact .inl (ancs_spec ops ops.toList [] (fun j hj => by simp) (fun i j hj => by simp [List.getD] at hj) i j (by simpa using h2))
    · exact .inr h2
  have hready_rem : ∀ listed i, i ∈ Region.ready .any ops listed → i ∈ rem ops.size listed ∧ ∃ o, ops[i]? = some o ∧ ∀ j ∈ preds o, listed.getD j false = true := by
    intro listed i hi
    obtain ⟨h0, o, ho, hall⟩ := mem_ready.1 hi
    refine ⟨mem_rem.2 ⟨(Array.getElem?_eq_some_iff.1 ho).1, h0⟩, o, ho, fun j hj => ?_⟩
    obtain ⟨e, he, rfl⟩ := List.mem_map.1 hj
    obtain ⟨he1, he2⟩ := List.mem_filter.1 he
    exact hall e (by simpa using he1) (by simpa using he2)
  have hempty : ∀ (listed : Array Bool), listed.size = ops.size → Region.ready .any ops listed = [] → rem ops.size listed = [] := by
    intro listed hs hr
    cases hrem : rem ops.size listed with
    | nil => rfl
    | cons i l =>
      exfalso
      have key : ∀ i, i ∉ rem ops.size listed := by
        intro i
        induction i using Nat.strongRecOn with
        | _ i ih =>
          intro hi
          obtain ⟨hlt, h0⟩ := mem_rem.1 hi
          have hm : i ∈ Region.ready .any ops listed := by
            refine mem_ready.2 ⟨h0, ops[i], by simp [hlt], fun e he hb => ?_⟩
            have hp : e.on ∈ preds ops[i] := List.mem_map.2 ⟨e, List.mem_filter.2 ⟨by simpa using he, by simpa using hb⟩, rfl⟩
            have hlt' := (hspec i ops[i] (by simp [hlt])).1 e.on hp
            have hn := ih e.on hlt'
            have : listed.getD e.on true = true := by
              cases hc : listed.getD e.on true with
              | true => rfl
              | false => exact absurd (mem_rem.2 ⟨by omega, hc⟩) hn
            have hl : e.on < listed.size := by omega
            simp [hl] at this ⊢
            exact this
          rw [hr] at hm
          cases hm
      exact key i (by rw [hrem]; exact List.mem_cons_self)
  intro fuel
  induction fuel with
  | zero =>
    intro listed σ E a w hs hc hdown hwf hsim hf
    have hr : rem ops.size listed = [] := List.eq_nil_of_length_eq_zero (by omega)
    rw [hr] at hc
    cases hc
    refine ⟨?_, hQ _ _ _ hsim⟩
    cases hready : Region.ready .any ops listed with
    | nil => rfl
    | cons i l =>
      have := (hready_rem listed i (by rw [hready]; exact List.mem_cons_self)).1
      rw [hr] at this
      cases this
  | succ fuel ih =>
    intro listed σ E a w hs hc hdown hwf hsim hf
    refine ⟨fun hr => ?_, fun i hi => ?_⟩
    · rw [hempty listed hs hr] at hc
      cases hc
      exact hQ _ _ _ hsim
    · obtain ⟨hmem, o, ho, hpre⟩ := hready_rem listed i hi
      obtain ⟨A, B, hAB⟩ := List.append_of_mem hmem
      rw [hAB] at hc
      have hsorted : (rem ops.size listed).Pairwise (· < ·) := List.Pairwise.filter _ List.pairwise_lt_range
      have hind : ∀ j ∈ A, ∀ oj oi, ops[j]? = some oj → ops[i]? = some oi → indep thr ops oj oi = true := by
        intro j hj oj oi hoj hoi
        have hji : j < i := by
          rw [hAB] at hsorted
          exact (List.pairwise_append.1 hsorted).2.2 j hj i List.mem_cons_self
        have hjr : listed.getD j true = false := (mem_rem.1 (by rw [hAB]; exact List.mem_append_left _ hj)).2
        rcases (hspec i oi hoi).2 j oj hji hoj with hanc | hin
        · exfalso
          have key : ∀ j i, Anc ops j i → ∀ o, ops[i]? = some o → (∀ k ∈ preds o, listed.getD k false = true) → listed.getD j false = true := by
            intro j i hanc
            induction hanc with
            | @one i o ho h =>
              intro o' ho' hk
              rw [ho] at ho'
              injection ho' with ho'
              subst ho'
              exact hk _ h
            | @step k i o h ho hk ih =>
              intro o' ho' hall
              rw [ho] at ho'
              injection ho' with ho'
              subst ho'
              have hkl := hall _ hk
              have hks : k < listed.size := by
                rcases Nat.lt_or_ge k listed.size with h' | h'
                · exact h'
                · simp [Array.getElem?_eq_none h'] at hkl
              have hkop : ops[k]? = some (ops[k]'(by omega)) := by simp [show k < ops.size by omega]
              refine ih _ hkop (fun q hq => ?_)
              exact hdown k (by omega) (by simp [hks] at hkl ⊢; exact hkl) _ hkop q hq
          have h1 := key j i hanc o ho hpre
          rcases Nat.lt_or_ge j listed.size with h' | h'
          · simp [h'] at h1 hjr
            rw [hjr] at h1
            cases h1
          · simp [Array.getElem?_eq_none h'] at h1
        · exact hin
      obtain ⟨σ1, oi, h1, h2, h3⟩ := ch_front A σ hc hind hwf
      refine stepR_sound h1 (hok oi (Array.mem_of_getElem? h1)) hsim h2 (fun E' a' w' hsim' => ?_)
      refine ih (listed.setIfInBounds i true) σ1 E' a' w' (by simpa using hs) (by rw [rem_set hs hAB]; exact h3) (fun q hq hlq oq hoq j hj => ?_) (wf_step hwf h2) hsim' ?_
      · refine getD_set_true ?_
        by_cases hqi : q = i
        · subst hqi
          rw [ho] at hoq
          injection hoq with hoq
          subst hoq
          exact hpre j hj
        · rw [getD_set_ne true (Ne.symm hqi)] at hlq
          exact hdown q hq hlq oq hoq j hj
      · rw [rem_set hs hAB]
        rw [hAB] at hf
        simp at hf ⊢
        omega
theorem region_sound {id : Nat} {draw : Bool} (hm : P.follows .mixedOrders = true) (hok : ∀ o ∈ ops, opOk P N o = true) (hord : draw = true → ordOk thr ops = true) {R : St → Prop} (h : RW P W thr ops ops.toList σ R) (hwf : Wf σ) (hsim : Sim W E0 w0 M N σ E a w)
    {Q : Exit → Act → World → Prop} (hQ : ∀ τ E a w, R τ → Wf τ → Sim W E0 w0 M N τ E a w → Q .normal a w) : (Code.region id ops draw).wp P Q a w := by
  obtain ⟨τ, hc, hR⟩ := RW_ch ops.toList 0 σ (fun j hj => by simp) h
  have hwfτ : Wf τ := by
    clear h hR hQ hsim
    revert hwf
    generalize List.range' 0 ops.toList.length = l at hc
    induction hc with
    | nil σ => exact fun h => h
    | cons ho hs ht ih => exact fun h => ih (wf_step h hs)
  have hl : List.range' 0 ops.toList.length = List.range ops.size := by rw [List.range_eq_range', Array.length_toList]
  rw [hl] at hc
  cases draw with
  | false => exact wp_region (ch_sound hok _ _ hc E a w hsim fun E a w hs => hQ τ E a w hR hwfτ hs)
  | true =>
    refine wp_region_any hm (any_sound hok (hord rfl) (fun E a w hs => hQ τ E a w hR hwfτ hs) _ _ σ E a _ (by simp) ?_ (fun i hi hli => ?_) hwf ?_ ?_)
    · have : rem ops.size (Array.replicate ops.size false) = List.range ops.size := by
        unfold rem
        exact List.filter_eq_self.2 fun i hi => by simp [List.mem_range.1 hi]
      rw [this]
      exact hc
    · simp [hi] at hli
    · have hq : Qs E w E { w with drawn := w.drawn + 1 } := ⟨⟨fun _ => Nat.le_refl _, fun _ _ _ => rfl, fun _ _ _ h => h, fun _ _ h _ => h, Nat.le_refl _⟩, ⟨rfl, rfl, rfl, Nat.le_refl _, fun _ _ => rfl⟩, rfl, rfl, rfl, fun _ _ => rfl, hsim.base.fresh⟩
      exact ⟨hsim.base.q hq, hsim.size, hsim.defers, fun t => (hsim.fr t).ext hq.ext⟩
    · have : (rem ops.size (Array.replicate ops.size false)).length ≤ (List.range ops.size).length := List.length_filter_le _ _
      simpa using this
end
end Go.Sh
