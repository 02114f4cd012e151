/- roadsteadlaw18.reads of the given program: the walk; what Bend makes of bytes. -/
import Derived.Test.YtpnlpbbnakplhaaDoorRefUnwrap
import Derived.Test.YtpnlpbbnakplhaaDoorRBendx1
import Derived.Test.YtpnlpbbnakplhaaDoorData
namespace Go.Proofs.YtpnlpbbnakplhaaDoor
open Go.RowKit Go.Proofs.YtpnlpbbnakplhaaDoorW.PrintWords Go.Proofs.YtpnlpbbnakplhaaDoorW.PrintLast Go.Proofs.YtpnlpbbnakplhaaDoorW.PrintMore
set_option linter.unusedVariables false
theorem errU_small (b : List Int) : errU (ChunkPure.unwrap Z b) ≤ 12 := by
  cases h : ChunkPure.unwrap Z b with
  | ok o => exact Nat.zero_le _
  | error e =>
    have := ChunkPure.unwrap_errors Z b e h
    show e ≤ 12
    omega
set_option maxRecDepth 100000 in
set_option maxHeartbeats 4000000 in
theorem reads_calls (A : Option Addr) (c : Nat) (b : List Int) (w : World) (hG : Glob w) (hR : Reads w A b) (hc : b.length ≤ c) (hl : b.length ≤ 65000) (hb : Bytes b) :
    Calls Tryd.prog 14 #[.slice A b.length c] w fun e w' => e = .returned (.bool true) ∧ Below w.heap.size w w' := by
  have h1 := chunk_Unwrap_calls A c b w hG hR hc hb (by omega)
  have h2 := fun w hR => ref_Unwrap_calls A c b w hR hc hl hb
  unfold RU at h1
  unfold RefU at h2
  have hE := errU_small b
  generalize errU (ChunkPure.unwrap Z b) = E at *
  generalize outU (ChunkPure.unwrap Z b) = O at *
  have hsO : ((strOfNums O).toList == (strOfNums O).toList) = true := beq_self_eq_true _
  have H1 := Aside0.mk h1
  have H2 := Aside0.mk h2
  have HR := Aside0.mk hR
  clear h1 h2 hR hb hG
  go_enter Tryd.func14, Tryd.ntmps14
  go_wp2_with fail
  refine H1.out.mono ?_
  rintro e w1 ⟨v1, rfl, ho1, hb1⟩
  obtain ⟨A1, c1, rfl⟩ := Kd.R_slice ho1
  have HR1 := Aside0.mk (Kd.R_reads' ho1).2.2
  have HB1 := Aside0.mk hb1
  clear ho1 hb1
  go_wp2_with fail
  refine (H2.out w1 (Kd.C_below HR.out HB1.out)).mono ?_
  rintro e w2 ⟨v2, rfl, ho2, hb2⟩
  obtain ⟨A2, c2, rfl⟩ := Kd.R_slice ho2
  have q1 := conv_row w2 A1 c1 O (Kd.C_below HR1.out hb2)
  have q2 := conv_row w2 A2 c2 O (Kd.R_reads' ho2).2.2
  have HB2 := Aside0.mk (below_step HB1.out hb2)
  clear ho2 hb2
  go_wp2_with fail
  go_ret
  exact ⟨by first | rfl | simp, HB2.out⟩
theorem bend_j1 (x1 x2 x3 : Int) (h1 : 0 ≤ x1 ∧ x1 < 65536) (h2 : Byte x2) (l : List Int) (hl : l.length ≤ 65000) (hb : Bytes l) (k : Nat) :
    ∃ r, RBend.roadsteadlaw01_Bend.j1 (k + 1) x1 x2 x3 l = some r ∧ Bytes r ∧ r.length ≤ l.length + 1 := by
  rw [RBend.roadsteadlaw01_Bend.j1]
  have hw : wrap64 ((l.length : Int) + 1) = (l.length : Int) + 1 := wrap_small _ (by omega) (by omega)
  have hx : wrap64 x1 = x1 := wrap_small _ (by omega) (by omega)
  rw [hw, hx, Int.tmod_eq_emod_of_nonneg h1.1]
  have e0 := Int.emod_nonneg x1 (show (l.length : Int) + 1 ≠ 0 by omega)
  have e1 := Int.emod_lt_of_pos x1 (show 0 < (l.length : Int) + 1 by omega)
  split
  · rw [if_neg (by omega)]
    try rw [if_pos e0]
    rw [if_pos (by omega), Option.bind_some]
    have ht : (l.take (x1 % ((l.length : Int) + 1)).toNat).length ≤ l.length := by rw [List.length_take]; omega
    split
    · rw [if_pos (by omega)]
      exact ⟨_, rfl, bytes_append (bytes_take hb _) (bytes_cons h2 bytes_nil), by rw [List.length_append]; simp; omega⟩
    · exact ⟨_, rfl, bytes_take hb _, by omega⟩
  · split
    · rw [if_pos (by omega)]
      exact ⟨_, rfl, bytes_append hb (bytes_cons h2 bytes_nil), by rw [List.length_append]; simp⟩
    · exact ⟨_, rfl, hb, by omega⟩
theorem bend_j0 (x1 x2 x3 : Int) (h1 : 0 ≤ x1 ∧ x1 < 65536) (h2 : Byte x2) (l : List Int) (hl : l.length ≤ 65000) (hb : Bytes l) (f : Bool) (hf : f = true → 0 < l.length) (k : Nat) :
    ∃ r, RBend.roadsteadlaw01_Bend.j0 (k + 2) x1 x2 x3 l f = some r ∧ Bytes r ∧ r.length ≤ l.length + 1 := by
  rw [RBend.roadsteadlaw01_Bend.j0]
  have hx : wrap64 x1 = x1 := wrap_small _ (by omega) (by omega)
  rw [hx, Int.tmod_eq_emod_of_nonneg h1.1]
  by_cases h : f = true
  · have hp := hf h
    have e0 := Int.emod_nonneg x1 (show (l.length : Int) ≠ 0 by omega)
    have e1 := Int.emod_lt_of_pos x1 (show 0 < (l.length : Int) by omega)
    rw [if_pos h, if_neg (by omega), if_pos e0, if_pos e1]
    obtain ⟨r, hr, hrb, hrl⟩ := bend_j1 x1 x2 x3 h1 h2 (l.set (x1 % (l.length : Int)).toNat x2) (by rw [List.length_set]; exact hl) (bytes_setAt hb _ h2) k
    rw [List.length_set] at hrl
    exact ⟨r, hr, hrb, hrl⟩
  · rw [if_neg h]
    exact bend_j1 x1 x2 x3 h1 h2 l hl hb k
theorem bend_some (x1 x2 x3 : Int) (h1 : 0 ≤ x1 ∧ x1 < 65536) (h2 : Byte x2) (l : List Int) (hl : l.length ≤ 65000) (hb : Bytes l) :
    ∃ r, RBend.roadsteadlaw01_Bend.f 2 l x1 x2 x3 = some r ∧ Bytes r ∧ r.length ≤ l.length + 1 := by
  unfold RBend.roadsteadlaw01_Bend.f
  rw [if_pos (by simp; omega), Option.bind_some, List.nil_append]
  split
  · exact bend_j0 x1 x2 x3 h1 h2 l hl hb _ (fun _ => by omega) 0
  · exact bend_j0 x1 x2 x3 h1 h2 l hl hb _ (fun h => by cases h) 0
end Go.Proofs.YtpnlpbbnakplhaaDoor
