/- MoveDoes: a state of any input is read: what its row says of it. -/
import Derived.Test.YtajfefjmfelnbaaStep
import Derived.Deep.Grids
import Derived.Lib.SmallJoins
namespace Go.Proofs.Ytajfefjmfelnbaa
open Go.RowKit Go.Proofs.YtajfefjmfelnbaaW.PrintWords Go.Proofs.YtajfefjmfelnbaaW.PrintLast Go.Proofs.YtajfefjmfelnbaaW.PrintMore BState
set_option linter.unusedVariables false
theorem open_C {α H : Type} (d : Kd α) (Good : α → Prop) {enc : TypeId × Value → H} {P : Program} {w : World} {base : Nat} {spare : Nat → Bool} {held : Bool} {t e : TypeId} {fuel : Nat} {cs : List Value} {x : DataW H × List MemPlace}
    (ht : P.underlying t = some (.slice e)) (hsz : P.cellsOf e = d.sz) (hel : ∀ (m : Nat) (c : List Value) (y : DataW H × List MemPlace), DataW.trod enc P w base spare held m e c = some y → ∃ a, d.K w a c ∧ Good a)
    (h : DataW.trod enc P w base spare held fuel t cs = some x) : ∃ (A : Option Addr) (xs : List α) (c : Nat), cs = [.slice A xs.length c] ∧ xs.length ≤ c ∧ xs.length ≤ maxLen ∧ d.C w A xs.length xs ∧ ∀ a ∈ xs, Good a := by
  rcases Go.Deep.open_slice ht h with ⟨rfl, _⟩ | ⟨a, len, cap, m, n, D, Pl, rfl, _, hl, hm, hmm, _, hx⟩
  · exact ⟨none, [], 0, rfl, Nat.le_refl _, Nat.zero_le _, Kd.C_nil _ _, fun _ h => by cases h⟩
  · have hlm : len ≤ m := by rw [hmm]; split <;> omega
    have key : ∀ k, k ≤ len → ∃ xs : List α, xs.length = k ∧ ∀ j p, xs[j]? = some p → (∃ c, c.length = d.sz ∧ d.K w p c ∧ ∀ i u, c[i]? = some u → w.cell? (a.add (j * d.sz + i)) = some u) ∧ Good p := by
      intro k
      induction k with
      | zero => exact fun _ => ⟨[], rfl, fun j p hj => by simp at hj⟩
      | succ k ih =>
        intro hk
        obtain ⟨xs, h1, h2⟩ := ih (by omega)
        obtain ⟨c, h3, h4⟩ := hx k (by omega)
        obtain ⟨b, h5, h6⟩ := hel _ _ _ h4
        refine ⟨xs ++ [b], by simp [h1], fun j p hj => ?_⟩
        by_cases hjk : j < k
        · rw [List.getElem?_append_left (by omega)] at hj
          exact h2 j p hj
        · have hj2 : j < (xs ++ [b]).length := (List.getElem?_eq_some_iff.1 hj).1
          have : j = k := by simp [h1] at hj2; omega
          subst this
          rw [List.getElem?_append_right (by omega), h1, Nat.sub_self] at hj
          simp at hj
          subst hj
          obtain ⟨_, h7, h8⟩ := World.cells?_some h3
          refine ⟨⟨c, by rw [h7, hsz], h5, fun i u hu => ?_⟩, h6⟩
          have hi : i < P.cellsOf e := by rw [← h7]; exact (List.getElem?_eq_some_iff.1 hu).1
          have h9 := h8 i hi
          rw [Go.Deep.add_add, hsz, hu] at h9
          exact h9
    obtain ⟨xs, h1, h2⟩ := key len (Nat.le_refl _)
    refine ⟨some a, xs, cap, by rw [h1], by omega, by omega, ⟨rfl, ?_, fun _ => ⟨a, rfl, fun j p hj => (h2 j p hj).1⟩⟩, fun b hb => ?_⟩
    · have : maxLen ≤ 9223372036854775807 := by decide
      omega
    · obtain ⟨j, hj⟩ := List.getElem?_of_mem hb
      exact (h2 j b hj).2
section
variable {H : Type} {enc : TypeId × Value → H} {w : World} {base : Nat} {spare : Nat → Bool} {held : Bool}
theorem elem_int {m : Nat} {c : List Value} {y : DataW H × List MemPlace} (h : DataW.trod enc Try.prog w base spare held m 3 c = some y) : ∃ a, (Kd.int .i64).K w a c ∧ a ≤ 9223372036854775807 := by
  obtain ⟨n, rfl, _, hw⟩ := DataW.trod_int Try.underlying3 h
  refine ⟨n, rfl, ?_⟩
  simp only [Lit.wf, Bool.and_eq_true, decide_eq_true_eq] at hw
  have := hw.2
  simp at this
  omega
theorem cells3 : Try.prog.cellsOf 3 = 1 := by kernel_rfl
theorem cells4 : Try.prog.cellsOf 4 = 1 := by kernel_rfl
theorem cells9 : Try.prog.cellsOf 9 = 1 := by kernel_rfl
theorem cells43 : Try.prog.cellsOf 43 = 1 := by kernel_rfl
theorem cells44 : Try.prog.cellsOf 44 = 1 := by kernel_rfl
theorem cells32 : Try.prog.cellsOf 32 = 1 := by kernel_rfl
theorem cells68 : Try.prog.cellsOf 68 = 8 := by kernel_rfl
theorem cells46 : Try.prog.cellsOf 46 = 10 := by kernel_rfl
theorem elem68 {m : Nat} {c : List Value} {y : DataW H × List MemPlace} (h : DataW.trod enc Try.prog w base spare held m 68 c = some y) : ∃ a, k68.K w a c ∧ True := by
  obtain ⟨xs, n, _, _, hl, hlen, hf⟩ := DataW.trod_struct Try.underlying68 h
  rw [cells68] at hl
  obtain ⟨v0, v1, v2, v3, v4, v5, v6, v7, rfl⟩ : ∃ v0 v1 v2 v3 v4 v5 v6 v7, c = [v0, v1, v2, v3, v4, v5, v6, v7] := by
    match c, hl with
    | [v0, v1, v2, v3, v4, v5, v6, v7], _ => exact ⟨_, _, _, _, _, _, _, _, rfl⟩
  obtain ⟨y0, y1, y2, y3, y4, y5, y6, y7, rfl⟩ : ∃ v0 v1 v2 v3 v4 v5 v6 v7, xs = [v0, v1, v2, v3, v4, v5, v6, v7] := by
    match xs, hlen with
    | [v0, v1, v2, v3, v4, v5, v6, v7], _ => exact ⟨_, _, _, _, _, _, _, _, rfl⟩
  have h0 := hf 0 _ rfl
  have h1 := hf 1 _ rfl
  have h2 := hf 2 _ rfl
  have h3 := hf 3 _ rfl
  have h4 := hf 4 _ rfl
  have h5 := hf 5 _ rfl
  have h6 := hf 6 _ rfl
  have h7 := hf 7 _ rfl
  simp [cells3, cells4, cells9] at h0 h1 h2 h3 h4 h5 h6 h7
  obtain ⟨n0, e0, -, -⟩ := DataW.trod_int Try.underlying3 h0
  obtain ⟨n1, e1, -, -⟩ := DataW.trod_string Try.underlying9 h1
  obtain ⟨n2, e2, -, -⟩ := DataW.trod_string Try.underlying9 h2
  obtain ⟨n3, e3, -, -⟩ := DataW.trod_int Try.underlying3 h3
  obtain ⟨n4, e4, -, -⟩ := DataW.trod_int Try.underlying3 h4
  obtain ⟨n5, e5, -⟩ := DataW.trod_bool Try.underlying4 h5
  obtain ⟨n6, e6, -, -⟩ := DataW.trod_string Try.underlying9 h6
  obtain ⟨n7, e7, -, -⟩ := DataW.trod_int Try.underlying3 h7
  simp at e0 e1 e2 e3 e4 e5 e6 e7
  subst e0 e1 e2 e3 e4 e5 e6 e7
  exact ⟨⟨n0, n1, n2, n3, n4, n5, n6, n7⟩, k68_mk w ⟨n0, n1, n2, n3, n4, n5, n6, n7⟩, trivial⟩
theorem elem46 {m : Nat} {c : List Value} {y : DataW H × List MemPlace} (h : DataW.trod enc Try.prog w base spare held m 46 c = some y) : ∃ a, k46.K w a c ∧ a.f0 ≤ 9223372036854775807 := by
  obtain ⟨xs, n, _, _, hl, hlen, hf⟩ := DataW.trod_struct Try.underlying46 h
  rw [cells46] at hl
  obtain ⟨v0, v1, v2, v3, v4, v5, v6, v7, v8, v9, rfl⟩ : ∃ v0 v1 v2 v3 v4 v5 v6 v7 v8 v9, c = [v0, v1, v2, v3, v4, v5, v6, v7, v8, v9] := by
    match c, hl with
    | [v0, v1, v2, v3, v4, v5, v6, v7, v8, v9], _ => exact ⟨_, _, _, _, _, _, _, _, _, _, rfl⟩
  obtain ⟨y0, y1, y2, y3, y4, y5, y6, y7, y8, y9, rfl⟩ : ∃ v0 v1 v2 v3 v4 v5 v6 v7 v8 v9, xs = [v0, v1, v2, v3, v4, v5, v6, v7, v8, v9] := by
    match xs, hlen with
    | [v0, v1, v2, v3, v4, v5, v6, v7, v8, v9], _ => exact ⟨_, _, _, _, _, _, _, _, _, _, rfl⟩
  have h0 := hf 0 _ rfl
  have h1 := hf 1 _ rfl
  have h2 := hf 2 _ rfl
  have h3 := hf 3 _ rfl
  have h4 := hf 4 _ rfl
  have h5 := hf 5 _ rfl
  have h6 := hf 6 _ rfl
  have h7 := hf 7 _ rfl
  have h8 := hf 8 _ rfl
  have h9 := hf 9 _ rfl
  simp [cells3, cells9, cells43, cells44] at h0 h1 h2 h3 h4 h5 h6 h7 h8 h9
  obtain ⟨n0, e0, hn0⟩ := elem_int h0
  obtain ⟨n1, e1, -, -⟩ := DataW.trod_string Try.underlying9 h1
  obtain ⟨n2, e2, -, -⟩ := DataW.trod_string Try.underlying9 h2
  obtain ⟨n3, e3, -, -⟩ := DataW.trod_string Try.underlying9 h3
  obtain ⟨n4, e4, -, -⟩ := DataW.trod_int Try.underlying3 h4
  obtain ⟨n5, e5, -, -⟩ := DataW.trod_int Try.underlying3 h5
  obtain ⟨n6, e6, -, -⟩ := DataW.trod_int Try.underlying3 h6
  obtain ⟨A7, n7, c7, e7, l7, -, g7, -⟩ := open_C (Kd.int .i64) (fun a => a ≤ 9223372036854775807) Try.underlying43 (cells3.trans rfl) (fun m c y hh => elem_int hh) h7
  obtain ⟨A8, n8, c8, e8, l8, -, g8, -⟩ := open_C k68 (fun _ => True) Try.underlying44 (cells68.trans rfl) (fun m c y hh => elem68 hh) h8
  obtain ⟨n9, e9, -, -⟩ := DataW.trod_string Try.underlying9 h9
  have e0' : [v0] = [.int .i64 n0] := e0
  simp at e0' e1 e2 e3 e4 e5 e6 e7 e8 e9
  subst e0' e1 e2 e3 e4 e5 e6 e7 e8 e9
  exact ⟨⟨n0, n1, n2, n3, n4, n5, n6, n7, n8, n9⟩, k46_mk w ⟨n0, n1, n2, n3, n4, n5, n6, n7, n8, n9⟩ l7 g7 l8 g8, hn0⟩
/-- A state's own slice. -/
theorem open_subs {m : Nat} {c : List Value} {y : DataW H × List MemPlace} (h : DataW.trod enc Try.prog w base spare held m 32 c = some y) : ∃ (A : Option Addr) (S : List S46) (cS : Nat), c = [.slice A S.length cS] ∧ S.length ≤ cS ∧ S.length ≤ maxLen ∧ Kd.C k46 w A S.length S ∧ ∀ a ∈ S, a.f0 ≤ 9223372036854775807 :=
  open_C k46 (fun a => a.f0 ≤ 9223372036854775807) Try.underlying32 (cells46.trans rfl) (fun m c y hh => elem46 hh) h
end
end Go.Proofs.Ytajfefjmfelnbaa
