/- A range over a function, told by one round and by what the iterator leaves: for iterators that keep state of their own. -/
import Derived.RangeFuncNested
import Derived.RangeFuncBound
import Derived.RangeFuncCalls
import Derived.RangeFuncLeaves
import Derived.WalkKit
namespace Go.Rounds
open Go.RowKit
variable {F : Fence} {n : Nat} {P : Program}
/-- How a round ends: the body has come to its end, or it has returned. -/
def Ends (l : Nat) (r : Loop) (R : Ending → World → Prop) : Exit → Act → World → Prop
  | .normal, _, W => W.heap[l]? = some (.loop { r with state := .busy }) ∧ R (.returned (.bool true)) (W.putObj l (.loop { r with state := .ready, pending := none }))
  | .ret, _, W => W.heap[l]? = some (.loop { r with state := .busy }) ∧ R (.returned (.bool false)) (W.putObj l (.loop { r with state := .done, pending := some .ret }))
  | _, _, _ => False
/-- One call of yield: the loop's assign code, its body. -/
theorem yield_of {l : Nat} {r : Loop} {args : Array Value} {W : World} {R : Ending → World → Prop} (hfn : F.fn r.fn) (hl : W.heap[l]? = some (.loop r)) (hst : r.state = .ready) (hs : args.size = r.params.size)
    (h : r.assign.wpIn (F.inRound l) n P (Exit.then (fun a1 W1 => W1.heap[l]? = some (.loop r) ∧ r.body.wpIn (F.inRound l) n P (Ends l r R) a1 (W1.putObj l (.loop { r with state := .busy }))) (fun _ _ _ => False))
      { tmps := (r.params.zip args).foldl (fun t (p, v) => t.setIfInBounds p v) r.tmps, defers := [] } W) : YieldAt F n P l args W R := by
  refine ⟨r.fn, _, r.assign, r.body, run_yield hl hs, roundIn_of_wpIn hfn (wpIn_mono h ?_)⟩
  rintro e a1 W1 hp
  cases e with
  | normal =>
    obtain ⟨hl1, hb⟩ := hp
    refine ⟨_, run_beginRound hl1 hst, wpIn_mono hb ?_⟩
    rintro e a2 W2 hq
    cases e with
    | normal => exact ⟨_, _, run_endRound none hq.1, hq.2⟩
    | ret => exact ⟨_, _, run_endRound (some .ret) hq.1, hq.2⟩
    | exit id => exact hq.elim
    | goto t => exact hq.elim
    | panic ch => exact hq.elim
    | outgrown => exact hq.elim
  | ret => exact hp.elim
  | exit id => exact hp.elim
  | goto t => exact hp.elim
  | panic ch => exact hp.elim
  | outgrown => exact hp.elim
/-- The loop's record, as it is laid. -/
def recOf (fn : FuncId) (a : Act) (ps : Array Tmp) (assign body : Code) (D : Nat) : Loop := { state := .ready, pending := none, fn, tmps := a.tmps, params := ps, assign, body, defers := D }
/-- The statement, told by what the iterator leaves: the record ready (it has run out), or done with a return. -/
theorem range_of {g : Operand} {ps : Array Tmp} {assign body : Code} {Q : Exit → Act → World → Prop} {a : Act} {w : World} (hro : F.round = none) (h1 : 1 ≤ n) {gf : Nat} {lb : Array Value}
    (hg : a.eval g = .func (.func gf) #[] lb) (hFg : F.fn gf) (eg : ∀ args w, (callFunc gf args).run P w = .ok (.enter gf args) w)
    (h : ∀ fn, F.fn fn → CallsIn F (n - 1) P gf (#[.func (.yield (w.heap.size + 1)) #[] #[]] ++ lb) ((w.alloc (.deferred (some []))).alloc (.loop (recOf fn a ps assign body w.heap.size))) fun e W =>
      (∃ v, e = .returned v) ∧ ((W.heap[w.heap.size + 1]? = some (.loop (recOf fn a ps assign body w.heap.size)) ∧ Q .normal { a with defers := { target := .collected w.heap.size, args := #[] } :: a.defers } (W.putObj (w.heap.size + 1) (.loop { recOf fn a ps assign body w.heap.size with state := .exhausted }))) ∨
        (W.heap[w.heap.size + 1]? = some (.loop { recOf fn a ps assign body w.heap.size with state := .done, pending := some .ret }) ∧ Code.ret.wpIn F n P Q { a with defers := { target := .collected w.heap.size, args := #[] } :: a.defers } (W.putObj (w.heap.size + 1) (.loop { recOf fn a ps assign body w.heap.size with state := .exhausted, pending := some .ret }))))) :
    (Code.rangeFunc g ps assign body).wpIn F n P Q a w := by
  refine wpIn_rangeFunc ?_
  intro fn hfn
  rw [hro]
  have he : (Instr.enterLoop fn a.tmps ps assign body none).run P w = .ok (w.heap.size + 1, [{ target := .collected w.heap.size, args := #[] }]) ((w.alloc (.deferred (some []))).alloc (.loop (recOf fn a ps assign body w.heap.size))) := run_enterLoop_outer _ _ _ _ _
  have hc := h fn hfn
  clear h
  revert hc
  generalize hr : recOf fn a ps assign body w.heap.size = r at he ⊢
  intro hc
  have hst : r.state = .ready := by rw [← hr]; rfl
  have hpe : r.pending = none := by rw [← hr]; rfl
  clear hr
  refine ⟨w.heap.size + 1, [{ target := .collected w.heap.size, args := #[] }], (w.alloc (.deferred (some []))).alloc (.loop r), { target := .fn (.func gf) lb, args := #[.func (.yield (w.heap.size + 1)) #[] #[]] }, (w.alloc (.deferred (some []))).alloc (.loop r), gf,
    #[.func (.yield (w.heap.size + 1)) #[] #[]] ++ lb, (w.alloc (.deferred (some []))).alloc (.loop r), he, ?_, ?_, ?_, fun _ => h1, ?_⟩
  · simp only [resolve, hg]
    simp [go_sem]
  · intro f' hf'; simp [Target.leads] at hf'; subst hf'; exact hFg
  · simp [invoke, go_sem, eg]
  · refine hc.mono ?_
    rintro e W ⟨⟨v, rfl⟩, (⟨hl, hq⟩ | ⟨hl, hq⟩)⟩
    · refine ⟨none, W.putObj (w.heap.size + 1) (.loop { r with state := .exhausted }), ?_, hq⟩
      have := run_endLoop (P := P) hl (by rw [hst]; simp)
      rw [this, hpe]
    · exact ⟨some .ret, _, run_endLoop (P := P) hl (by simp), hq⟩
/-- The same, the record known by its parts. -/
theorem range_rec {g : Operand} {ps : Array Tmp} {assign body : Code} {Q : Exit → Act → World → Prop} {a : Act} {w : World} (hro : F.round = none) (h1 : 1 ≤ n) {gf : Nat} {lb : Array Value}
    (hg : a.eval g = .func (.func gf) #[] lb) (hFg : F.fn gf) (eg : ∀ args w, (callFunc gf args).run P w = .ok (.enter gf args) w)
    (h : ∀ r : Loop, F.fn r.fn → r.state = .ready → r.pending = none → r.tmps = a.tmps → r.params = ps → r.assign = assign → r.body = body →
      CallsIn F (n - 1) P gf (#[.func (.yield (w.heap.size + 1)) #[] #[]] ++ lb) ((w.alloc (.deferred (some []))).alloc (.loop r)) fun e W =>
      (∃ v, e = .returned v) ∧ ((W.heap[w.heap.size + 1]? = some (.loop r) ∧ Q .normal { a with defers := { target := .collected w.heap.size, args := #[] } :: a.defers } (W.putObj (w.heap.size + 1) (.loop { r with state := .exhausted }))) ∨
        (W.heap[w.heap.size + 1]? = some (.loop { r with state := .done, pending := some .ret }) ∧ Code.ret.wpIn F n P Q { a with defers := { target := .collected w.heap.size, args := #[] } :: a.defers } (W.putObj (w.heap.size + 1) (.loop { r with state := .exhausted, pending := some .ret }))))) :
    (Code.rangeFunc g ps assign body).wpIn F n P Q a w :=
  range_of hro h1 hg hFg eg (fun fn hfn => h (recOf fn a ps assign body w.heap.size) hfn rfl rfl rfl rfl rfl rfl)
end Go.Rounds
