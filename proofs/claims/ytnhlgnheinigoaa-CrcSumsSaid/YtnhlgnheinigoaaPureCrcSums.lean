/- CrcSums: Sum, More, Seal and Right of any bytes are what the document says. No condition. -/
import Derived.Test.YtnhlgnheinigoaaPCrcSumsx2
import Derived.Test.YtnhlgnheinigoaaRefFns
namespace Go.Proofs.Ytnhlgnheinigoaa.Pure
open Go.RowKit Go.Proofs.Ytnhlgnheinigoaa.BRight Go.Proofs.Ytnhlgnheinigoaa.RRight Go.Proofs.Ytnhlgnheinigoaa.PCrcSums Go.Proofs.YtnhlgnheinigoaaW.PrintWords Go.Proofs.YtnhlgnheinigoaaW.PrintLast Go.Proofs.YtnhlgnheinigoaaW.PrintMore

theorem known_some : roadsteadlaw02_known.f = some true := rfl
theorem bytes_set {l : List Int} (hl : Bytes l) (i : Nat) {v : Int} (hv : Byte v) : Bytes (l.set i v) := by
  intro c hc
  rcases List.mem_or_eq_of_mem_set hc with h | rfl
  · exact hl c h
  · exact hv
theorem last (l s : List Int) (hl : Bytes l) (hs : Bytes s) (hn : l.length ≤ 600) (hm : s.length ≤ 604) (a : Int) (h0 : 0 ≤ a) (h1 : a < 4294967296) (k : Nat) (hk : 6100 < k) :
    roadsteadlaw02_CrcSums.j1 k a l s = some true := by
  obtain ⟨k, rfl⟩ : ∃ m, k = m + 1 := ⟨k - 1, by omega⟩
  simp only [roadsteadlaw02_CrcSums.j1]
  rw [sum_f l hl (by omega), ref_sum l hl (by omega) k (by omega)]
  simp only [Option.bind_some, if_true]
  rw [← toI_ofI a h0 h1, more_eq _ l hl (by omega), ref_more l hl (by omega) _ k (by omega)]
  simp only [Option.bind_some, if_true]
  rw [seal_f l hl (by omega), ref_seal l hl (by omega) k (by omega)]
  simp only [Option.bind_some, if_true]
  rw [right_f l hl (by omega), ref_right l hl (by omega) k (by omega)]
  simp only [Option.bind_some, beq_self_eq_true, if_true]
  rw [right_f s hs (by omega), ref_right s hs (by omega) k (by omega)]
  simp
theorem CrcSums : roadsteadlaw02_CrcSums.Pure := by
  intro a l k8 ha _ hl hb hk8
  have hb := bytes_of_wf hb
  have ha' : 0 ≤ a ∧ a < 4294967296 := by
    simp [Lit.wf, IntKind.min, IntKind.max, IntKind.signed, IntKind.bits] at ha
    omega
  have hk' : 0 ≤ k8 ∧ k8 < 256 := by
    simp [Lit.wf, IntKind.min, IntKind.max, IntKind.signed, IntKind.bits] at hk8
    omega
  refine ⟨6103, ?_⟩
  unfold roadsteadlaw02_CrcSums.f
  by_cases h : (l.length : Int) > 600
  · rw [if_pos h]
    simp only [roadsteadlaw02_CrcSums.j0, known_some]
    rfl
  · rw [if_neg h, known_some]
    simp only [Option.bind_some, roadsteadlaw02_CrcSums.j0, Bool.not_true, Bool.false_eq_true, if_false]
    rw [ref_seal l hb (by omega) _ (by omega)]
    simp only [Option.bind_some]
    have hsl := sealB_length l
    have hsb := sealB_bytes hb
    by_cases h2 : k8 < 200
    · have hm := Int.emod_nonneg k8 (show ((sealB l).length : Int) ≠ 0 by omega)
      have hm2 := Int.emod_lt_of_pos k8 (show (0 : Int) < ((sealB l).length : Int) by omega)
      rw [if_pos h2, if_neg (by omega), wrap_small _ (by omega) (by omega), Int.tmod_eq_emod_of_nonneg hk'.1, if_pos hm, if_pos hm2, Int.tmod_eq_emod_of_nonneg hk'.1, if_pos (by omega)]
      exact last l _ hb (bytes_set hsb _ (bits_u8 _ _ _)) (by omega) (by rw [List.length_set]; omega) a ha'.1 ha'.2 _ (by omega)
    · rw [if_neg h2]
      exact last l _ hb hsb (by omega) (by omega) a ha'.1 ha'.2 _ (by omega)
end Go.Proofs.Ytnhlgnheinigoaa.Pure
