/- slices.Sort at []int, over a row of the call's own: the shelf's contract in the print's words. -/
import Derived.Test.YtajfefjmfelnbaaShelf
import Derived.Test.YtajfefjmfelnbaaBStatex0
import Derived.Sort.OwnSortedInts
namespace Go.Proofs.Ytajfefjmfelnbaa
open Go.RowKit Go.Proofs.YtajfefjmfelnbaaW.PrintWords Go.Proofs.YtajfefjmfelnbaaW.PrintLast Go.Proofs.YtajfefjmfelnbaaW.PrintMore
def sorted (zs : List Int) : List Int := zs.mergeSort fun x y => decide (x ≤ y)
theorem sorted_length (zs : List Int) : (sorted zs).length = zs.length := List.length_mergeSort ..
theorem sort_R (zs : List Int) (w : World) (base : Nat) (v : Value) (h : Kd.R (Kd.int .i64) 3 w base (fun _ => True) v zs) (hsz : zs.length < 4611686018427387904) :
    Calls Try.prog 36 #[v] w fun e w' => e = .returned (.tuple #[]) ∧ Kd.R (Kd.int .i64) 3 w' base (fun _ => True) v (sorted zs) ∧ (∀ w0, Below base w0 w → Below base w0 w') := by
  have ho := Kd.own_of_R h
  obtain ⟨hl, hv⟩ := ho
  rcases hv with ⟨rfl, h0⟩ | ⟨g, cap, cur, rfl, hbase, hg, h1, h2, h3, h4⟩
  · have hz : zs = [] := by
      cases zs with
      | nil => rfl
      | cons => simp at h0
    subst hz
    refine (Try.slices_Sort_int_none none 0 w).mono ?_
    rintro e w' ⟨rfl, rfl⟩
    exact ⟨rfl, by simpa [sorted] using h, fun _ h => h⟩
  · have hH := holds_of_blockI (ss := zs) hg (by have := h4; simp [encs] at this; exact this)
    refine (Try.slices_Sort_int g 0 cap zs w hH (Array.getElem?_eq_some_iff.1 hg).1 hsz).mono ?_
    rintro e w' ⟨rfl, n, os, rfl⟩
    have hso : (sorted zs).length = zs.length := sorted_length zs
    refine ⟨rfl, ?_, fun w0 hb => ?_⟩
    · have := ownsRow_sortedI (n := n) (os := os) (ts := sorted zs) (ss := zs) hso hbase hg h1 h2 (by simpa using h3)
      exact Kd.R_of_own (by rw [hso]; exact this) (fun _ _ => trivial)
    · have hgr := grownBy_sortedI (w := w) (g := g) (n := n) (os := os) (sorted zs).toArray
      exact hb.grown hgr (Nat.le_of_lt (Nat.lt_of_le_of_lt hbase (Array.getElem?_eq_some_iff.1 hg).1)) (fun k hk => by cases hk; exact hbase)
end Go.Proofs.Ytajfefjmfelnbaa
