/- A call that leaves the world alone may be taken first in a region that draws its order. -/
import Derived.Test.YtajfefjmfelnbaaWords
namespace Go.Proofs.Ytajfefjmfelnbaa
open Go.Proofs.YtajfefjmfelnbaaW.PrintLast Go.Proofs.YtajfefjmfelnbaaW.PrintWords
section
variable {P : Program} {ops : Array Oper} {Q : Exit → Act → World → Prop} {md : Region.Mode} {S : World → Prop} {ds : List Nat}
/-- Operation o enters a function that comes back with v in every world of S, and leaves it as it is. -/
def QuietIf (P : Program) (ops : Array Oper) (S : World → Prop) (o : Oper) (v : Value) (a : Act) : Prop :=
  Region.wanted o (yielded ops a.tmps) = true ∧ ∃ f args, ∀ w, S w → (execOp a.eval o).run P w = .ok (.enter f args) w ∧ Calls P f args w fun e w' => e = .returned v ∧ w' = w
theorem QuietIf.here {i : Nat} {o : Oper} {v : Value} {a : Act} (hi : ops[i]? = some o) (hy : QuietIf P ops S o v a) {K : Act → World → Prop} {w : World} (hS : S w) (h : K (a.put o.dst v) w) : wpOp P ops Q i K a w := by
  obtain ⟨hw, f, args, hq⟩ := hy
  obtain ⟨hr, hc⟩ := hq w hS
  unfold Go.wpOp
  simp only [hi, hw, if_true]
  refine .inl ?_
  unfold Oper.wp
  rw [hr, Oper.upon_enter]
  refine hc.mono fun e w' he => ?_
  obtain ⟨rfl, rfl⟩ := he
  exact h
theorem QuietIf.like {o : Oper} {v : Value} {a a' : Act} (hy : QuietIf P ops S o v a) (he : execOp a'.eval o = execOp a.eval o)
    (hw : Region.wanted o (yielded ops a'.tmps) = Region.wanted o (yielded ops a.tmps)) : QuietIf P ops S o v a' := by
  unfold QuietIf at *
  rw [he, hw]
  exact hy
/-- Another operation, apart from it, goes on as if its value stood already. -/
theorem QuietIf.past {j : Nat} {oi oj : Oper} {v : Value} (hj : ops[j]? = some oj) (hap : oi.apart ops oj = true)
    (hsi : ∀ cs b, oi.op ≠ .select cs b) (hsj : ∀ cs b, oj.op ≠ .select cs b)
    (hQ : ∀ c a w, Q (.panic c) (a.put oi.dst v) w → Q (.panic c) a w) {K : Act → World → Prop} {a : Act} {w : World}
    (hy : QuietIf P ops S oi v a) (h : wpOp P ops Q j K (a.put oi.dst v) w) :
    wpOp P ops Q j (fun a' w' => QuietIf P ops S oi v a' ∧ K (a'.put oi.dst v) w') a w := by
  obtain ⟨h1, h2, h3⟩ := Oper.apart_spec hap
  have kp : ∀ u, QuietIf P ops S oi v (a.put oj.dst u) := fun u => hy.like (execOp_put oi hsi a oj.dst u h3) (wanted_put oi a oj.dst u h3)
  have kd : ∀ d u, QuietIf P ops S oi v ({ a with defers := d :: a.defers }.put oj.dst u) := fun d u =>
    QuietIf.like (a := { a with defers := d :: a.defers }) (hy.like rfl rfl) (execOp_put oi hsi _ oj.dst u h3) (wanted_put oi _ oj.dst u h3)
  have pc : ∀ u, (a.put oi.dst v).put oj.dst u = (a.put oj.dst u).put oi.dst v := fun u => Act.put_comm a v u h2
  have ex : execOp (a.put oi.dst v).eval oj = execOp a.eval oj := execOp_put oj hsj a oi.dst v h1
  unfold wpOp at *
  simp only [hj] at *
  rw [wanted_put oj a oi.dst v h1] at h
  by_cases hw : Region.wanted oj (yielded ops a.tmps) = true
  · rw [if_pos hw] at h ⊢
    rcases h with h | ⟨ha, hl⟩
    · left
      unfold Oper.wp at *
      rw [ex] at h
      revert h
      cases (execOp a.eval oj).run P w with
      | ok n w' =>
        cases n with
        | value u => intro h; exact ⟨kp u, by rw [← pc]; exact h⟩
        | skip => intro h; exact ⟨kp _, by rw [← pc]; exact h⟩
        | defer d =>
          intro h
          refine ⟨kd d _, ?_⟩
          have e := Act.put_comm { a with defers := d :: a.defers } v undef h2
          rw [← e, ← Act.put_defers]
          exact h
        | enter f args =>
          intro h
          rw [Oper.upon_enter] at h ⊢
          refine h.mono fun e w2 he => ?_
          cases e with
          | returned u => exact ⟨kp u, by rw [← pc]; exact he⟩
          | panicked c => exact hQ _ _ _ he
          | outgrown => exact he
        | row r args =>
          intro h
          rw [Oper.upon_row] at h ⊢
          exact Rows.mono h fun u w2 he => ⟨kp u, by rw [← pc]; exact he⟩
        | _ => intro h; simp only [Oper.upon] at h
      | halt x w' =>
        intro h
        cases x <;> simp only [Oper.upon] at h ⊢
        exact hQ _ _ _ h
    · right
      refine ⟨?_, hl⟩
      unfold Oper.asks at *
      rw [ex] at ha
      exact ha
  · rw [if_neg hw] at h ⊢
    exact ⟨kp _, by rw [← pc]; exact h⟩
theorem quiet_first {i : Nat} {oi : Oper} {v : Value} (hi : ops[i]? = some oi) (hsel : ∀ (j : Nat) (o : Oper) cs b, ops[j]? = some o → o.op ≠ .select cs b)
    (hQ : ∀ c a w, Q (.panic c) (a.put oi.dst v) w → Q (.panic c) a w) (n : Nat) :
    ∀ (fuel : Nat) (l : Array Bool) (a : Act) (w : World),
      (∀ j oj, ops[j]? = some oj → j ≠ i → l.getD j true = false → (∀ e ∈ oj.after, Region.binds md e = true → e.on ≠ i) → oi.apart ops oj = true) →
      ListedClosed md ops l → (∀ d ∈ ds, l.getD d true = false → Region.reachB md ops i n d = true) →
      i ∈ Region.ready md ops l → QuietIf P ops S oi v a → S w →
      wpAnyLast P md ops Q S ds fuel (l.setIfInBounds i true) (a.put oi.dst v) w → wpAnyLast P md ops Q S ds (fuel + 1) l a w := by
  intro fuel
  induction fuel with
  | zero =>
    intro l a w _ _ _ hr hy hS H
    refine ⟨fun h => (by rw [h] at hr; cases hr), fun j hj => ?_⟩
    by_cases hji : j = i
    · subst hji; exact hy.here hi hS ⟨fun _ h => h, H⟩
    · have hm := ready_mono hj hji
      rw [H.1] at hm
      cases hm
  | succ fuel ih =>
    intro l a w hfree hc hd hr hy hS H
    refine ⟨fun h => (by rw [h] at hr; cases hr), fun j hj => ?_⟩
    by_cases hji : j = i
    · subst hji; exact hy.here hi hS ⟨fun _ h => h, H⟩
    obtain ⟨hjun, oj, hoj, hall⟩ := mem_ready.1 hj
    have hiun := (mem_ready.1 hr).1
    have hnot : ∀ e ∈ oj.after, Region.binds md e = true → e.on ≠ i := fun e he hb heq => by
      have hl := hall e he hb
      rw [heq] at hl
      rcases Nat.lt_or_ge i l.size with h' | h'
      · simp [h'] at hiun hl; rw [hiun] at hl; cases hl
      · simp [Array.getElem?_eq_none h'] at hl
    have hset : ∀ k, (l.setIfInBounds j true).getD k true = false → l.getD k true = false := fun k hun => by
      by_cases hjk : j = k
      · subst hjk; exact hjun
      · rw [getD_set_ne true hjk] at hun; exact hun
    have hjd : j ∉ ds := fun hm => Region.reach_not_ready hc (hd j hm hjun) hiun hj
    refine wpOp_mono (fun a' w' h3 => ⟨h3.2.1, ih (l.setIfInBounds j true) a' w' (fun k ok hk hki hun hno => hfree k ok hk hki (hset k hun) hno) (hc.set hj) (fun d hm hun => hd d hm (hset d hun)) (ready_mono hr (Ne.symm hji)) h3.1 (h3.2.1 hjd hS) ?_⟩)
      (QuietIf.past hoj (hfree j oj hoj hji hjun hnot) (fun cs b => hsel i oi cs b hi) (fun cs b => hsel j oj cs b hoj) hQ hy (H.2 j (ready_mono hj hji)))
    rw [Array.setIfInBounds_comm _ _ hji]
    exact h3.2.2
/-- Number i, a call that leaves the world as it is, comes first. -/
theorem quiet_ {i : Nat} {N : Option Tmp} {oi : Oper} {v : Value} {fuel : Nat} {l : Array Bool} {a : Act} {w : World} (l' : Array Bool) (hi : ops[i]? = some oi) (hN : oi.dst = N) (hc : takeB md ops ds l l' i = true)
    (hQ : ∀ c a w, Q (.panic c) (a.put oi.dst v) w → Q (.panic c) a w) (hy : QuietIf P ops S oi v a) (hS : S w) {a' : Act} (ha : a.put N v = a')
    (h : wpAnyLast P md ops Q S ds fuel l' a' w) : wpAnyLast P md ops Q S ds (fuel + 1) l a w := by
  subst ha
  subst hN
  simp only [takeB, Bool.and_eq_true, beq_iff_eq] at hc
  obtain ⟨⟨⟨⟨⟨h1, h2⟩, h3⟩, h4⟩, h5⟩, h6⟩ := hc
  subst h6
  exact quiet_first hi (Region.noSelect_spec h1) hQ ops.size fuel l a w (Region.free_spec hi h2) (Region.closedB_spec h4)
    (fun d hm hun => by have := List.all_eq_true.1 h5 d hm; rw [hun] at this; simpa using this) (by simpa using h3) hy hS h
/-- What it asks of a call of a function by its number. -/
theorem quiet_call {oi : Oper} {a : Act} {v : Value} {f : FuncId} {fn : Func} {as : Array Operand} {ts : Array TypeId} (hf : P.funcs[f]? = some fn) (hname : (fn.name == "runtime.NumGoroutine") = false) (hb : fn.body.isSome = true) (args : Array Value)
    (hw : Region.wanted oi (yielded ops a.tmps) = true) (hop : oi.op = .call { callee := .value (.func f), args := as, argTypes := ts }) (hargs : as.map a.eval = args)
    (h : ∀ w, S w → Calls P f args w fun e w' => e = .returned v ∧ w' = w) : QuietIf P ops S oi v a := by
  refine ⟨hw, f, args, fun w hS => ⟨?_, h w hS⟩⟩
  have he := enters_ hf hname hb args w
  unfold execOp
  simp [hop, resolve, Deferred.ofValue, invoke, Act.eval, hargs, he]
end
end Go.Proofs.Ytajfefjmfelnbaa
