/- slices.Sort of a rising row of the function's own: nothing turns. No condition. -/
import Derived.Test.YtobamidecbfgpaaGreatDoorSc
import Derived.Sort.OwnSortedInts
namespace Go.Proofs.YtobamidecbfgpaaGreatDoor
open Go Go.Sh Go.RowKit
set_option linter.unusedVariables false
variable {W : World}
theorem rise_lt : ∀ {f : Nat} {l : List Nat}, Rise f l → ∀ a ∈ l, f < a
  | _, [], _, a, ha => by cases ha
  | f, b :: r, h, a, ha => by
    rcases List.mem_cons.1 ha with rfl | ha
    · exact h.1
    · exact Nat.lt_trans h.1 (rise_lt h.2 a ha)
theorem rise_pw : ∀ {f : Nat} {l : List Nat}, Rise f l → l.Pairwise (· < ·)
  | _, [], _ => .nil
  | f, b :: r, h => .cons (fun a ha => rise_lt h.2 a ha) (rise_pw h.2)
theorem sort24 (l : List Nat) (hr : l.Pairwise (· < ·)) (hl : l.length ≤ 10000) (g c : Nat) (tp : Nat → Option (Nat × Nat)) (ht : l ≠ [] → tp 41 = some (g, l.length)) : Ft T W 24 [oI g l] tp c (.tu []) tp c := by
  refine ⟨Nat.le_refl _, fun E w vs hbox hEc hg htops hfresh htop hvs => ?_⟩
  obtain ⟨v0, rfl⟩ : ∃ v0, vs = [v0] := by
    match vs, hvs.1 with
    | [v0], _ => exact ⟨v0, rfl⟩
  have hr0 : Rep E w v0 (oI g l) := hvs.2 0 (by simp)
  have post : ∀ w', Below w.heap.size w w' → ∃ v E', Ending.returned (.tuple #[]) = .returned v ∧ E'.box = (fun _ _ => none) ∧ Rep E' w' v (.tu []) ∧ EOk w.heap.size (Tops E) tp E' w' ∧ Fresh E' w' ∧ Kp (Tops E) w w' ∧ Ext E w E' w' ∧ E'.c = c ∧ (∀ b, b < w.heap.size → ¬ Tops E b → E'.pr b = E.pr b) := by
    intro w' hb
    refine ⟨_, E, rfl, hbox, .tu [] [] rfl (fun j hj => absurd hj (Nat.not_lt_zero _)), ⟨htop.to, fun k T hT => ?_, htop.inj⟩, fun b hge => hfresh b (Nat.le_trans hb.size hge), (Kp.refl _ w).below hb, below_ext hfresh hb rfl rfl rfl (fun _ _ => rfl), hEc, fun _ _ _ => rfl⟩
    obtain ⟨h1, h2, h3, h4, h5, h6, cur, e, h7, h8⟩ := htop.at_ k T hT
    exact ⟨h1, h2, h3, h4, h5, h6, cur, e, by rw [hb.block _ (Array.getElem?_eq_some_iff.1 h7).1]; exact h7, h8⟩
  by_cases h0 : l = []
  · subst h0
    cases hr0
    refine (Tryz.slices_Sort_int_none none 0 w).mono ?_
    rintro e w' ⟨rfl, rfl⟩
    exact post w' (Below.refl _ _)
  · rw [show oI g l = .sl 1 (l.map iN) (.op 41 g) from DO_ne (by simpa using h0)] at hr0
    obtain ⟨T0, hT0, hTg, hTn⟩ := htop.to 41 g _ (ht h0)
    cases hr0 with
    | sl blk off n cap _ _ _ f hn hcap hmax ho hgl h1 hc hrr =>
    rw [List.length_map] at hn
    obtain ⟨e1, e2, e3, e4⟩ := ho.2 T0 hT0 hTg (by rw [hTn, hn])
    subst e1 e2 e3
    obtain ⟨q1, q2, q3, q4, q5, q6, cur, e, hg7, q8⟩ := htop.at_ 41 T0 hT0
    have hlt := (Array.getElem?_eq_some_iff.1 hg7).1
    obtain ⟨zs, hzs⟩ : ∃ zs : List Int, zs = l.map Int.ofNat := ⟨_, rfl⟩
    have hzl : zs.length = n := by rw [hzs, List.length_map, hn]
    have hH : Go.Sort.Holds (Value.int .i64) w T0.blk 0 zs.toArray := by
      intro j hj
      have hj' : j < l.length := by rw [hn, ← hzl]; simpa using hj
      refine ⟨?_, by simp [World.frozen?, hg7]⟩
      have h2 := (hc j 0 (by omega) (by omega)).1
      have h3 := hrr j 0 (by omega) (by omega)
      have ed : ((l.map iN).getD j .u).cells.getD 0 .u = .i .i64 ((l[j] : Nat) : Int) := by simp [List.getD, hj', iN, D.cells]
      rw [ed] at h3
      have h4 : f j 0 = .int .i64 ((l[j] : Nat) : Int) := by generalize f j 0 = y at h3; cases h3; rfl
      rw [h4] at h2
      have ez : zs.toArray[j]! = ((l[j] : Nat) : Int) := by rw [hzs]; simp [hj']
      rw [ez]
      simpa using h2
    have hms : zs.mergeSort (fun x y => decide (x ≤ y)) = zs := by
      refine List.mergeSort_of_pairwise ?_
      rw [hzs, List.pairwise_map]
      refine hr.imp ?_
      intro a b hab
      simpa using Nat.le_of_lt hab
    have hS := Tryz.slices_Sort_int T0.blk 0 T0.cap zs w hH hlt (by omega)
    rw [hms, hzl] at hS
    refine hS.mono ?_
    rintro e w' ⟨rfl, m, os, rfl⟩
    have hself : Go.Sort.putRow (Value.int .i64) (Sort.ahead w m) T0.blk 0 zs.toArray = Sort.ahead w m := Go.Sort.putRow_self _ _ _ _ _ (fun j hj => by simpa using hH j hj)
    rw [hself]
    have hb1 : Below w.heap.size w (Sort.ahead w m) := ⟨rfl, rfl, rfl, Nat.le_refl _, fun _ _ => rfl⟩
    exact post _ (hb1.trans (below_grow (Sort.ahead w m) os))
end Go.Proofs.YtobamidecbfgpaaGreatDoor
