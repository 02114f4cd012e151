/- What Sum, Seal and Right of the given program come to, in words of 32 bits; the example of the chapter. Rows of bytes shorter than 2^40. -/
import Derived.Test.YtpnlpbbnakplhaaDoorBRightx1
import Derived.Test.YtpnlpbbnakplhaaDoorCrcMath
namespace Go.Proofs.YtpnlpbbnakplhaaDoor
open Go.RowKit Go.Proofs.YtpnlpbbnakplhaaDoorW.PrintWords Go.Proofs.YtpnlpbbnakplhaaDoorW.PrintMore Go.Proofs.YtpnlpbbnakplhaaDoor.BRight
set_option linter.unusedVariables false

theorem str_eq {l m : List Int} (hl : Bytes l) (hm : Bytes m) : (strOfNums l).toList = (strOfNums m).toList ↔ l = m := by
  constructor
  · intro h
    rw [ByteArray.toList_eq, ByteArray.toList_eq, strOfNums_data, strOfNums_data] at h
    have hlen : l.length = m.length := by simpa using congrArg List.length h
    apply List.ext_getElem hlen
    intro i h1 h2
    have hi := congrArg (fun z : List UInt8 => z[i]?) h
    simp only [List.getElem?_map, List.getElem?_eq_getElem h1, List.getElem?_eq_getElem h2, Option.map_some, Option.some.injEq] at hi
    have b1 := hl _ (List.getElem_mem h1)
    have b2 := hm _ (List.getElem_mem h2)
    unfold Byte at b1 b2
    have ht := congrArg UInt8.toNat hi
    simp only [UInt8.toNat_ofNat'] at ht
    omega
  · rintro rfl
    rfl
theorem str_beq {l m : List Int} (hl : Bytes l) (hm : Bytes m) : ((strOfNums l).toList == (strOfNums m).toList) = decide (l = m) := by
  rw [Bool.eq_iff_iff, beq_iff_eq, str_eq hl hm, decide_eq_true_iff]
theorem wrap_small (n : Int) (h0 : -9223372036854775808 ≤ n) (h1 : n < 9223372036854775808) : wrap64 n = n := by
  unfold wrap64
  omega
theorem sum_f (l : List Int) (hl : Bytes l) (hn : l.length ≤ 1099511627776) : crc_Sum.f l = some (toI (sumB l)) := by
  unfold crc_Sum.f
  have h := more_eq 0 l hl (by omega)
  rw [show toI 0 = 0 by decide] at h
  rw [h]
  rfl
def sealB (l : List Int) : List Int := l ++ le4 (toI (sumB l))
theorem sealB_length (l : List Int) : (sealB l).length = l.length + 4 := by simp [sealB, le4]
theorem sealB_bytes {l : List Int} (hl : Bytes l) : Bytes (sealB l) := bytes_append hl (le4_bytes _)
theorem seal_f (l : List Int) (hl : Bytes l) (hn : l.length ≤ 1099511627776) : crc_Seal.f l = some (sealB l) := by
  unfold crc_Seal.f
  rw [sum_f l hl hn]
  have hw : wrap64 ((l.length : Int) + 4) = (l.length : Int) + 4 := wrap_small _ (by omega) (by omega)
  simp only [Option.bind_some, hw]
  rw [if_pos (by omega), if_pos (by omega), if_pos (by simp; omega), if_pos (by simp; omega)]
  simp [sealB, le4]
/-- Have they their sum behind them? -/
def rightB (l : List Int) : Bool := decide (4 ≤ l.length) && decide (sealB (l.take (l.length - 4)) = l)
theorem right_f (l : List Int) (hl : Bytes l) (hn : l.length ≤ 1099511627776) : crc_Right.f l = some (rightB l) := by
  unfold crc_Right.f rightB
  have hw : wrap64 ((l.length : Int) - 4) = (l.length : Int) - 4 := wrap_small _ (by omega) (by omega)
  rw [hw]
  by_cases h : 4 ≤ l.length
  · rw [if_pos (by omega), if_pos (by omega), if_pos (by omega), show ((l.length : Int) - 4).toNat = l.length - 4 by omega, seal_f _ (bytes_take hl _) (by rw [List.length_take]; omega)]
    simp only [Option.bind_some, bytes_Equal.f, str_beq (sealB_bytes (bytes_take hl _)) hl, decide_eq_true h, Bool.true_and]
  · rw [if_neg (by omega), decide_eq_false h]
    rfl
end Go.Proofs.YtpnlpbbnakplhaaDoor
