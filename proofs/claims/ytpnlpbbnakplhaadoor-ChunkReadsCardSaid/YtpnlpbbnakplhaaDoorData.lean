/- Data of the laws of layer 18: some row of bytes, as long as the choices say (plain); and its call. -/
import Derived.Test.YtpnlpbbnakplhaaDoorKnown
import Derived.Test.YtpnlpbbnakplhaaDoorBDatax1
namespace Go.Proofs.YtpnlpbbnakplhaaDoor
open Go.RowKit Go.Proofs.YtpnlpbbnakplhaaDoorW.PrintWords Go.Proofs.YtpnlpbbnakplhaaDoorW.PrintMore Go.Proofs.YtpnlpbbnakplhaaDoor.BData
set_option linter.unusedVariables false
theorem bytes_setAt {l : List Int} (hl : Bytes l) (i : Nat) {v : Int} (hv : Byte v) : Bytes (l.set i v) := by
  intro c hc
  rcases List.mem_or_eq_of_mem_set hc with h | rfl
  · exact hl c h
  · exact hv
theorem data_l0 (x0 : List Int) (hx : x0.length ≤ 140737488351232) : ∀ (n i : Nat) (x5 : List Int), Bytes x5 → i + n = x5.length → x5.length ≤ 1000 → ∃ r, roadsteadlaw18_Data.l0 (n + 1) x0 x5 (i : Nat) = some r ∧ r.length = x5.length ∧ Bytes r
  | 0, i, x5, hb, hn, hl => ⟨x5, by rw [roadsteadlaw18_Data.l0, if_neg (by omega)], rfl, hb⟩
  | n + 1, i, x5, hb, hn, hl => by
    rw [roadsteadlaw18_Data.l0, if_pos (by omega)]
    by_cases h0 : (x0.length : Int) > 0
    · have ht : Int.tmod (i : Int) (x0.length : Int) = (i : Int) % (x0.length : Int) := Int.tmod_eq_emod_of_nonneg (by omega)
      have h1 := Int.emod_nonneg (i : Int) (show (x0.length : Int) ≠ 0 by omega)
      have h2 := Int.emod_lt_of_pos (i : Int) h0
      rw [if_pos h0, if_neg (by omega), ht, if_pos h1, if_pos h2, if_pos (by omega), wrap_small _ (by omega) (by omega), show ((i : Int) + 1) = ((i + 1 : Nat) : Int) by omega]
      obtain ⟨r, hr, hrl, hrb⟩ := data_l0 x0 hx n (i + 1) (x5.set (i : Int).toNat ((rd x0 ((i : Int) % (x0.length : Int)) + (i : Int) % 256) % 256)) (bytes_setAt hb _ (by unfold Byte; omega)) (by rw [List.length_set]; omega) (by rw [List.length_set]; omega)
      exact ⟨r, hr, by rw [hrl, List.length_set], hrb⟩
    · rw [if_neg h0]
      exact ⟨x5, rfl, rfl, hb⟩
theorem data_some (l0 : List Int) (hl : l0.length ≤ 140737488351232) (n : Int) (h0 : 0 ≤ n) (h1 : n < 65536) : ∃ k r, roadsteadlaw18_Data.f k l0 n = some r ∧ r.length ≤ 699 ∧ Bytes r := by
  have ht : Int.tmod n 700 = n % 700 := Int.tmod_eq_emod_of_nonneg h0
  obtain ⟨m, hm⟩ : ∃ m : Nat, n % 700 = m := ⟨(n % 700).toNat, by omega⟩
  have hm7 : m < 700 := by omega
  have hbz : Bytes (List.replicate m 0) := fun c hc => by rw [List.eq_of_mem_replicate hc]; unfold Byte; omega
  obtain ⟨r, hr, hrl, hrb⟩ := data_l0 l0 hl m 0 (List.replicate m 0) hbz (by simp) (by simp; omega)
  refine ⟨m + 1, r, ?_, by rw [hrl]; simp; omega, hrb⟩
  unfold roadsteadlaw18_Data.f
  rw [ht, hm, wrap_small _ (by omega) (by omega), if_pos (by omega), if_pos (by simp; omega), Int.toNat_natCast]
  exact hr
/-- Some row of fewer than 700 bytes. -/
theorem data_calls (A : Option Addr) (c : Nat) (l : List Int) (n : Int) (w : World) (hl : l.length ≤ 140737488351232) (h0 : 0 ≤ n) (h1 : n < 65536) (hr : Reads w A l) (hc : l.length ≤ c) :
    ∃ d : List Int, d.length ≤ 699 ∧ Bytes d ∧ Calls Tryd.prog 11 #[.slice A l.length c, .int .u16 n] w fun e w' => ∃ v, e = .returned v ∧ Row w' w.heap.size (fun _ => True) v d ∧ Below w.heap.size w w' := by
  obtain ⟨k, r, hf, hrl, hrb⟩ := data_some l hl n h0 h1
  exact ⟨r, hrl, hrb, roadsteadlaw18_Data.calls k A c l n r w hr hc hf⟩
end Go.Proofs.YtpnlpbbnakplhaaDoor
