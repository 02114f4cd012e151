/- State of any bytes: its contract with what its subscriptions are like. -/
import Derived.Test.YtajfefjmfelnbaaStatePure
import Derived.Test.YtajfefjmfelnbaaBStatex9
namespace Go.Proofs.Ytajfefjmfelnbaa
open Go.RowKit Go.Proofs.YtajfefjmfelnbaaW.PrintWords Go.Proofs.YtajfefjmfelnbaaW.PrintLast Go.Proofs.YtajfefjmfelnbaaW.PrintMore BState
theorem state_use (l : List Int) (hb : Bytes l) : ∃ (s0 s1 s2 : Int) (S : List S46), Fine 6 S ∧ ∀ (A : Option Addr) (c : Nat) (w : World), Kd.C (Kd.int .u8) w A l.length l → l.length ≤ c →
    Calls Try.prog 11 #[.slice A l.length c] w fun e w' => ∃ (A' : Option Addr) (c' : Nat), e = .returned (.agg #[.int .i64 s0, .int .i64 s1, .int .i64 s2, .slice A' S.length c']) ∧ S.length ≤ c' ∧ Kd.C k46 w' A' S.length S ∧ Below w.heap.size w w' := by
  obtain ⟨r, hr, hF⟩ := state_some l hb 1200 (Nat.le_refl _)
  refine ⟨r.1, r.2.1, r.2.2.1, r.2.2.2, hF, fun A c w hC hc => ?_⟩
  refine (BState.roadsteadlaw10_State.calls 1200 A c l r.1 r.2.1 r.2.2.1 r.2.2.2 w hC hc hr).mono ?_
  rintro e w' ⟨v, rfl, hN, hB⟩
  obtain ⟨A', c', rfl⟩ := Kd.N_slice hN
  have h2 := Kd.N_reads' hN
  exact ⟨A', c', rfl, h2.2.1, h2.2.2, hB⟩
end Go.Proofs.Ytajfefjmfelnbaa
