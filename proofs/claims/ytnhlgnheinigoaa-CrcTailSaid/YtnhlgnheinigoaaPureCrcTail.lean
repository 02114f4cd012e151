/- CrcTail: bytes with four behind them are right just if these are their sum. No condition. -/
import Derived.Test.YtnhlgnheinigoaaPCrcTailx1
import Derived.Test.YtnhlgnheinigoaaCrcFns
namespace Go.Proofs.Ytnhlgnheinigoaa.Pure
open Go.RowKit Go.Proofs.Ytnhlgnheinigoaa.BRight Go.Proofs.Ytnhlgnheinigoaa.PCrcTail Go.Proofs.YtnhlgnheinigoaaW.PrintWords Go.Proofs.YtnhlgnheinigoaaW.PrintLast

theorem known_some : roadsteadlaw02_known.f = some true := rfl
theorem right_tail (l : List Int) (a : Int) (h0 : 0 ≤ a) (h1 : a < 4294967296) : rightB (l ++ le4 a) = (a == toI (sumB l)) := by
  have hr := toI_range (sumB l)
  unfold rightB
  have hlen : (l ++ le4 a).length = l.length + 4 := by simp [le4]
  have ht : (l ++ le4 a).take ((l ++ le4 a).length - 4) = l := by rw [hlen, Nat.add_sub_cancel, List.take_left]
  rw [ht, hlen, decide_eq_true (by omega : 4 ≤ l.length + 4), Bool.true_and, Bool.eq_iff_iff, decide_eq_true_iff, beq_iff_eq]
  constructor
  · intro h
    exact (le4_inj hr.1 hr.2 h0 h1 (List.append_cancel_left h)).symm
  · rintro rfl
    rfl
theorem CrcTail : roadsteadlaw02_CrcTail.Pure := by
  intro l a _ hl hb ha
  have hb := bytes_of_wf hb
  have ha' : 0 ≤ a ∧ a < 4294967296 := by
    simp [Lit.wf, IntKind.min, IntKind.max, IntKind.signed, IntKind.bits] at ha
    omega
  unfold roadsteadlaw02_CrcTail.f
  by_cases h : (l.length : Int) > 500
  · rw [if_pos h, known_some]; rfl
  · rw [if_neg h, sum_f l hb (by omega)]
    simp only [Option.bind_some, known_some, List.nil_append, if_true, List.length_nil]
    rw [if_pos (by omega), if_pos (by simp; omega)]
    have hr := right_f (l ++ le4 a) (bytes_append hb (le4_bytes a)) (by simp [le4]; omega)
    rw [right_tail l a ha'.1 ha'.2] at hr
    rw [show [a % 256, a / 256 % 256, a / 65536 % 256, a / 16777216 % 256] = le4 a from rfl, hr]
    simp only [Option.bind_some, beq_self_eq_true, if_true, seal_f l hb (by omega)]
    rw [sealB_length, wrap_small _ (by omega) (by omega)]
    simp
end Go.Proofs.Ytnhlgnheinigoaa.Pure
