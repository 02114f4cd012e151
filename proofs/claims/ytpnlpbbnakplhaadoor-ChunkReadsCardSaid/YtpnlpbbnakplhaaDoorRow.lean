/- Small facts: a row of bytes as a string; two equal arrays. -/
import Derived.Test.YtpnlpbbnakplhaaDoorShaSum
import Derived.Stop.BytesEq
import Derived.Laws.BytesArg
namespace Go.Proofs.YtpnlpbbnakplhaaDoor
open Go.RowKit Go.Proofs.YtpnlpbbnakplhaaDoorW.PrintWords Go.Proofs.YtpnlpbbnakplhaaDoorW.PrintLast Go.Proofs.YtpnlpbbnakplhaaDoorW.PrintMore
theorem conv_row (W : World) (A : Option Addr) (c : Nat) (l : List Int) (h : Kd.C (Kd.int .u8) W A l.length l) : (convert 22 9 (.slice A l.length c)).run Tryd.prog W = .ok (.string (strOfNums l)) W := by
  cases A with
  | none =>
    have h0 : l.length = 0 := by
      rcases Nat.eq_zero_or_pos l.length with e | e
      · exact e
      · obtain ⟨ad, e', _⟩ := Kd.at_int h 0 (by omega) (by omega)
        cases e'
    have hl : l = [] := List.length_eq_zero_iff.1 h0
    subst hl
    rw [run_convert_bytes_nil W 22 5 Tryd.underlying22 Tryd.underlying5 _ _ 9 Tryd.underlying9]
    rfl
  | some ad =>
    have hl : (loadCells ad l.length).run Tryd.prog W = .ok (l.map (Value.int .u8)).toArray W := by
      have := run_loadCells_list (P := Tryd.prog) W ad (l.map (Value.int .u8)) (fun j v hj => by
        have hjl : j < l.length := by
          rcases Nat.lt_or_ge j l.length with h | h
          · exact h
          · simp [List.getElem?_eq_none (show (l.map (Value.int .u8)).length ≤ j by simpa using h)] at hj
        obtain ⟨ad', e', hc'⟩ := Kd.at_int h (j : Int) (by omega) (by omega)
        cases e'
        rw [Int.toNat_natCast] at hc'
        rw [hc']
        simp [List.getElem?_eq_getElem hjl] at hj
        subst hj
        simp [rd, List.getD, List.getElem?_eq_getElem hjl])
      simpa using this
    rw [run_convert_bytes_string W 22 9 5 _ l.length c Tryd.underlying22 Tryd.underlying5 Tryd.underlying9, run_bytesToString W _ l.length c l hl, foldl_push_bytes]
    simp [strOfNums, ByteArray.empty, ByteArray.emptyWithCapacity]
    rfl
theorem equalIn_part (D : List Int) (w : World) (d : Nat) : (Op.equalIn (d + 2) 42 (.agg (part8u 32 D)) (.agg (part8u 32 D))).run Tryd.prog w = .ok true w := by
  have hsz : ∀ w, (sizeOf 5).run Tryd.prog w = .ok 1 w := fun w => by kernel_rfl
  rw [Op.equalIn]
  simp only [Sem.run_bind, run_underlying Tryd.underlying42, Result.andThen_ok, hsz, Std.Legacy.Range.forIn_eq_forIn_range', Std.Legacy.Range.size, Nat.sub_zero, Nat.add_sub_cancel, Nat.div_one]
  have hl : ∀ i ∈ List.range' 0 32 1, i < 32 := fun i hi => by simpa using (List.mem_range'_1.1 hi).2
  generalize List.range' 0 32 1 = l at hl ⊢
  induction l with
  | nil => simp
  | cons i l ih =>
    have hi : i < 32 := hl i (by simp)
    have px : (part 5 (part8u 32 D) (i * 1)).run Tryd.prog w = .ok (.int .u8 (rd D i)) w := by
      have := p8_at 32 D i hi
      simp [part, isAgg, run_underlying Tryd.underlying5, this]
    have pe : (Op.equalIn (d + 1) 5 (.int .u8 (rd D i)) (.int .u8 (rd D i))).run Tryd.prog w = .ok true w := by
      rw [run_equalIn_int w d 5 .u8 .u8 _ _ Tryd.underlying5]
      simp
    simp only [List.forIn_cons, Sem.run_bind, px, pe, Result.andThen_ok]
    simp only [Bool.not_true, Bool.false_eq_true, if_false, Sem.run_pure, Result.andThen_ok]
    exact ih fun j hj => hl j (by simp [hj])
theorem eql_part (D : List Int) (w : World) : (binOp .eql 42 (.agg (part8u 32 D)) (.agg (part8u 32 D))).run Tryd.prog w = .ok (.bool true) w := by
  rw [run_eql_struct, equalIn_part D w 9998]
  rfl
end Go.Proofs.YtpnlpbbnakplhaaDoor
