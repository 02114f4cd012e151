/- slices.Chunk of the given program, and its iterator: the walk, for whatever the rounds keep. Rows of bytes shorter than 2^40. -/
import Derived.Test.YtpnlpbbnakplhaaDoorShaSum
import Derived.Test.YtpnlpbbnakplhaaDoorRounds
import Derived.RangeFuncBound
import Derived.Shelf.Abstract
import Derived.Shelf.RegionOpen
import Derived.OwnWalkIn
import Derived.TacticsInMore
import Derived.LoopNIn
import Derived.LoopIn
namespace Go.Proofs.YtpnlpbbnakplhaaDoor
open Go.RowKit Go.Shelf Go.Proofs.YtpnlpbbnakplhaaDoorW.PrintWords Go.Proofs.YtpnlpbbnakplhaaDoorW.PrintLast Go.Proofs.YtpnlpbbnakplhaaDoorW.PrintMore
attribute [local go_sem] Oper.semAt_some
set_option linter.unusedVariables false
theorem chunk_calls (A : Option Addr) (L c : Nat) (w : World) :
    Calls Tryd.prog 43 #[.slice A L c, .int .i64 100] w fun e w' => e = .returned (.func (.func 49) #[] #[.pointer (some ⟨w.heap.size, 0, none⟩), .pointer (some ⟨w.heap.size + 1, 0, none⟩)]) ∧ w' = (w.alloc (.cells #[.slice A L c] 22)).alloc (.cells #[.int .i64 100] 3) := by
  go_enter Tryd.func43, Tryd.ntmps43
  go_wp2
  go_ret
  exact ⟨by simp, rfl⟩
set_option maxRecDepth 100000 in
set_option maxHeartbeats 2000000 in
theorem chunk1_in (n l bs bn : Nat) (A : Option Addr) (L c : Nat) (hL : L ≤ 1099511627776) (hc : L ≤ c) (J : Nat → World → Prop) (Jx : World → Prop)
    (hJc : ∀ k W, J k W → W.cell? ⟨bs, 0, none⟩ = some (.slice A L c) ∧ W.cell? ⟨bn, 0, none⟩ = some (.int .i64 100)) (hJd : ∀ k W, J k W → J k W.drew)
    (hY : ∀ k (ad : Addr) W, J k W → A = some ad → 100 * k < L → YieldAt Fence.wide (n - 1) Tryd.prog l #[.slice (some (ad.add (100 * k))) (min 100 (L - 100 * k)) (min 100 (L - 100 * k))] W fun e W' =>
      (e = .returned (.bool true) ∧ J (k + 1) W') ∨ (e = .returned (.bool false) ∧ Jx W'))
    (hA : 0 < L → ∃ ad, A = some ad) (W : World) (h0 : J 0 W) :
    CallsIn Fence.wide n Tryd.prog 49 #[.func (.yield l) #[] #[], .pointer (some ⟨bs, 0, none⟩), .pointer (some ⟨bn, 0, none⟩)] W fun e W' => (∃ v, e = .returned v) ∧ ((∃ k, L ≤ 100 * k ∧ 100 * k < L + 100 ∧ J k W') ∨ Jx W') := by
  refine callsIn_of_wp Tryd.func49 rfl trivial ?_ rfl
  simp only [Tryd.ntmps49, List.size_toArray, List.length_cons, List.length_nil, Nat.reduceAdd, Nat.reduceSub, Array.replicate_succ, Array.replicate_zero, List.push_toArray, List.append_toArray, List.nil_append, List.cons_append]
  gi_wp2
  gi_loopw [4] (fun i wr => ∃ k : Nat, 100 * k < L + 100 ∧ i = .int .i64 ((100 * k : Nat) : Int) ∧ J k wr)
    (fun i _ => L + 100 - (intOf i).toNat)
  case atStart => exact ⟨0, by omega, rfl, h0⟩
  case round =>
    obtain ⟨k, hk, rfl, hJs⟩ := hrel
    have hcs := (hJc _ _ hJs).1
    have hcn := (hJc _ _ hJs).2
    by_cases hlt : 100 * k < L
    · obtain ⟨ad, rfl⟩ := hA (by omega)
      have hmix : Tryd.prog.follows .mixedOrders = true := by kernel_rfl
      have hd := hJd _ _ hJs
      have hm : (if ((L - 100 * k : Nat) : Int) < 100 then ((L - 100 * k : Nat) : Int) else 100) = ((min 100 (L - 100 * k) : Nat) : Int) := by split <;> omega
      gi_wp2
      gi_region_with_o (fail)
      all_goals (
        obtain ⟨fn, tmps, assign, body, hy, hR⟩ := hY k ad _ hd rfl hlt
        have hcs2 := (hJc _ _ hd).1
        have hm1 : min 100 (L - 100 * k) ≤ L - 100 * k := Nat.min_le_right _ _
        have hm2 : min 100 (L - 100 * k) ≤ 100 := Nat.min_le_left _ _
        generalize min 100 (L - 100 * k) = m at *
        clear hcs hcn hJs hA hJd hmix
        generalize wr.drew = wd at *
        · gi_wp2
          refine ⟨fun h => (by cases h), hR.mono ?_⟩
          rintro e W3 (⟨rfl, hJ3⟩ | ⟨rfl, hJx3⟩)
          · have hcn3 := (hJc _ _ hJ3).2
            gi_wp2
            go_roundw
            case rel => exact ⟨k + 1, by omega, by simp; omega, hJ3⟩
            case measure => simp [intOf]; omega
          · gi_wp2
            refine bodyPost_ret (results_none rfl _ _ _) rfl ?_
            exact ⟨⟨_, rfl⟩, .inr hJx3⟩)
    · gi_wp2
      go_end0
      exact ⟨⟨_, rfl⟩, .inl ⟨k, by omega, hk, hJs⟩⟩
end Go.Proofs.YtpnlpbbnakplhaaDoor
