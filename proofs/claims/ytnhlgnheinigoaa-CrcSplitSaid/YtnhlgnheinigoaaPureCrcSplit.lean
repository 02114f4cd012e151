/- CrcSplit: the sum of two rows of bytes is More of the first one's and the second. No condition. -/
import Derived.Test.YtnhlgnheinigoaaPCrcSplitx1
import Derived.Test.YtnhlgnheinigoaaCrcFns
namespace Go.Proofs.Ytnhlgnheinigoaa.Pure
open Go.RowKit Go.Proofs.Ytnhlgnheinigoaa.BRight Go.Proofs.Ytnhlgnheinigoaa.PCrcSplit Go.Proofs.YtnhlgnheinigoaaW.PrintWords Go.Proofs.YtnhlgnheinigoaaW.PrintLast

theorem known_some : roadsteadlaw02_known.f = some true := rfl
theorem runB_append (l m : List Int) (x : W32) : runB (l ++ m) x = runB m (runB l x) := by
  induction l generalizing x with
  | nil => rfl
  | cons c l ih => simp only [List.cons_append, runB, ih]
theorem sum_split (l m : List Int) : moreB (sumB l) m = sumB (l ++ m) := by
  unfold sumB moreB
  rw [xor_self_left, runB_append]
theorem more_nil (x : W32) : moreB x [] = x := by
  unfold moreB runB
  rw [xor_self_left]
theorem CrcSplit : roadsteadlaw02_CrcSplit.Pure := by
  intro l m _ hl hbl _ hm hbm
  have hbl := bytes_of_wf hbl
  have hbm := bytes_of_wf hbm
  unfold roadsteadlaw02_CrcSplit.f
  rw [wrap_small _ (by omega) (by omega)]
  by_cases h : (l.length : Int) + (m.length : Int) > 800
  · rw [if_pos h, known_some]; rfl
  · rw [if_neg h]
    simp only [Option.bind_some, known_some, List.nil_append, if_true, List.length_nil]
    rw [if_pos (by omega), if_pos (by omega), sum_f (l ++ m) (bytes_append hbl hbm) (by simp; omega), sum_f l hbl (by omega)]
    simp only [Option.bind_some]
    rw [more_eq _ m hbm (by omega), more_eq _ [] (fun _ h => by cases h) (by simp), sum_split, more_nil]
    simp
end Go.Proofs.Ytnhlgnheinigoaa.Pure
