/- crc.table and crc.More of the given program: the walk of each, as a contract in the print's form. No condition but that the row is shorter than 2^62. -/
import Derived.Test.YtpnlpbbnakplhaaDoorBase
import Derived.WalkKit
import Derived.RowKit
import Derived.RowKit3
import Derived.Laws.Rows
import Derived.Laws.Tables
import Derived.Laws.BitsLemmas
import Derived.Below
import Derived.Laws.CopyOwn
import Derived.Test.YtpnlpbbnakplhaaDoorWords
namespace Go.Proofs.YtpnlpbbnakplhaaDoor
open Go.RowKit Go.Proofs.YtpnlpbbnakplhaaDoorW.PrintWords
set_option linter.unusedVariables false

def crcStep (n : Int) : Int := bits BinOp.xor IntKind.u32 (n / 2) (3988292384 * bits BinOp.and IntKind.u32 n 1 % 4294967296)
def crcSteps : Nat → Int → Int
  | 0, n => n
  | j + 1, n => crcStep (crcSteps j n)
def tabCells (k : Nat) : Array Value := Array.ofFn (n := 256) fun i => Value.int .u32 (if i.val < k then crcSteps 8 i.val else 0)
theorem info35 : (Tryd.prog.info? 68).bind (·.zero) = some (.agg (Array.replicate 256 (.int .u32 0))) := by kernel_rfl
theorem tab0 : Array.replicate 256 (Value.int .u32 0) = tabCells 0 := by
  apply Array.ext
  · simp [tabCells]
  · intro i h1 h2
    simp [tabCells]
theorem tab_size (k : Nat) : (tabCells k).size = 256 := by simp [tabCells]
theorem tab_at (k i : Nat) (h : i < 256) : (tabCells k)[i]? = some (.int .u32 (if i < k then crcSteps 8 i else 0)) := by
  simp [tabCells, h]
theorem tab_put (k : Nat) (h : k < 256) : (tabCells k).setIfInBounds k (.int .u32 (crcSteps 8 k)) = tabCells (k + 1) := by
  apply Array.ext
  · simp [tabCells]
  · intro i h1 h2
    rw [Array.getElem_setIfInBounds]
    · simp only [tabCells, Array.getElem_ofFn]
      by_cases e : k = i
      · subst e; simp
      · rw [if_neg e]
        by_cases hl : i < k
        · rw [if_pos hl, if_pos (by omega)]
        · rw [if_neg hl, if_neg (by omega)]
    · simpa [tabCells] using h2
theorem tab_one (k : Nat) : (tabCells k).all (·.oneCell') = true := by
  rw [Array.all_eq_true]
  intro i h
  simp [tabCells]
  rfl

set_option maxRecDepth 10000 in
theorem table_calls (w : World) : Calls Tryd.prog 53 #[] w fun e w' => e = .returned (.agg (tabCells 256)) ∧ Below w.heap.size w w' := by
  go_enter Tryd.func53, Tryd.ntmps53
  go_wp2_with (refine wpList_alloc_row rfl 68 rfl _ info35 ?_)
  rw [tab0]
  go_loopw [4] (fun v4 wr => ∃ k : Nat, k ≤ 256 ∧ v4 = .int .i64 k ∧ Aside0 (wr.heap[w.heap.size + 1]? = some (.cells (tabCells k) 68 (0, 0))) ∧ Aside0 (wr.heap[w.heap.size]? = some (.cells (tabCells 0) 68 (0, 0))) ∧ Aside0 (Below w.heap.size w wr)) (fun v4 _ => 256 - (intOf v4).toNat)
  case atStart => exact ⟨0, by omega, rfl, ⟨heap_alloc2_new _ _ _⟩, ⟨heap_alloc2_old _ _ _⟩, ⟨((Below.refl _ _).alloc (Nat.le_refl _) _).alloc (by simp) _⟩⟩
  case round =>
    obtain ⟨k, hk, rfl, H1, h0, hb⟩ := hrel
    by_cases hlt : k < 256
    · go_wp2
      go_loop [3, 9] (fun v3 v9 => ∃ j : Nat, j ≤ 8 ∧ v9 = .int .i64 j ∧ v3 = .int .u32 (crcSteps j k)) (fun _ v9 => 8 - (intOf v9).toNat)
      case atStart => exact ⟨0, by omega, rfl, rfl⟩
      case round =>
        obtain ⟨j, hj, rfl, rfl⟩ := hrel
        by_cases hlt : j < 8
        · go_wp2
          go_round
          case rel => exact ⟨j + 1, by omega, by go_num, rfl⟩
          case measure => simp [intOf]; omega
        · obtain rfl : j = 8 := by omega
          have hc : wr.cell? ⟨w.heap.size + 1, k, none⟩ = some (.int .u32 (if k < k then crcSteps 8 k else 0)) := by rw [cell_of_row _ _ _ _ _ _ H1.out, tab_at _ _ (by omega)]
          have hf : wr.frozen? ⟨w.heap.size + 1, k, none⟩ = false := frozen_of_row _ _ _ _ _ H1.out
          go_wp2
          go_roundw
          case rel => exact ⟨k + 1, by omega, by go_num, ⟨by rw [heap_setCell_same _ _ _ _ _ _ H1.out, tab_put _ (by omega)]⟩, ⟨by rw [heap_setCell_other _ _ _ _ (by simp)]; exact h0.out⟩, ⟨hb.out.setCell (by simp) _⟩⟩
          case measure => simp [intOf]; omega
    · obtain rfl : k = 256 := by omega
      go_wp2_with (first | (refine wpList_load_row rfl 68 _ rfl (w.heap.size + 1) rfl 68 _ _ _ H1.out Tryd.underlying68 rfl (by kernel_rfl) ?_) | (refine wpList_store_row rfl 68 _ _ rfl w.heap.size (tabCells 256) rfl rfl 68 _ h0.out (by kernel_rfl) (by rw [tab_size, tab_size]) (tab_one _) ?_))
      exact bodyPost_ret (results_cell_row rfl _ _ w.heap.size 68 (tabCells 256) (0, 0) _ rfl (setRow_heap _ _ _ _ _ _ h0.out) Tryd.underlying68 rfl (by kernel_rfl)) rfl ⟨rfl, below_setRow hb.out (Nat.le_refl _) _⟩

def crcIn (n c : Int) : Int := bits .xor .u32 (n / 256) (crcSteps 8 (bits .xor .u8 (n % 256) c))

theorem info35' : (Tryd.prog.info? 68).bind (·.zero) = some (.agg (tabCells 0)) := by rw [← tab0]; exact info35
def crcRun : List Int → Int → Int
  | [], n => n
  | c :: l, n => crcRun l (crcIn n c)
theorem crcRun_append (l m : List Int) (n : Int) : crcRun (l ++ m) n = crcRun m (crcRun l n) := by
  induction l generalizing n with
  | nil => rfl
  | cons c l ih => simp only [List.cons_append, crcRun, ih]
theorem crcRun_take (l : List Int) (n : Int) (k : Nat) (h : k < l.length) : crcRun (l.take (k + 1)) n = crcIn (crcRun (l.take k) n) (rd l k) := by
  rw [List.take_succ_eq_append_getElem h, crcRun_append]
  simp [crcRun, rd, h]
theorem bits_u8 (op : BinOp) (a b : Int) : 0 ≤ bits op .u8 a b ∧ bits op .u8 a b < 256 := by
  unfold bits
  simp only [IntKind.wrap_u8]
  omega
def crc_More.f (a0 : Int) (l1 : List Int) : Option Int := if l1.length ≤ 4611686018427387904 then some (bits .xor .u32 4294967295 (crcRun l1 (bits .xor .u32 4294967295 a0))) else none
set_option maxRecDepth 20000 in
theorem crc_More.calls (a0 : Int) (A1 : Option Addr) (c1 : Nat) (l1 : List Int) (r : Int) (w : World) (hr1 : Kd.C (Kd.int .u8) w A1 l1.length l1) (hc1 : l1.length ≤ c1) (h : crc_More.f a0 l1 = some r) :
    Calls Tryd.prog 52 #[.int .u32 a0, .slice A1 l1.length c1] w fun e w' => e = .returned (.int .u32 r) ∧ Below w.heap.size w w' := by
  unfold crc_More.f at h
  have hlen : l1.length ≤ 4611686018427387904 := by
    by_cases e : l1.length ≤ 4611686018427387904
    · exact e
    · rw [if_neg e] at h; cases h
  rw [if_pos hlen] at h
  obtain rfl := Option.some.inj h
  clear h
  have HR1 := Aside0.mk hr1
  have HC1 := Aside0.mk hc1
  clear hr1 hc1
  have hsg : IntKind.u32.signed = false := rfl
  have hmx : IntKind.u32.max = 4294967295 := by decide
  go_enter Tryd.func52, Tryd.ntmps52
  go_wp2_with (first | (go_at_call 53; refine (table_calls _).mono ?_; rintro e w1 ⟨rfl, hb⟩; have HB := Aside0.mk hb; clear hb) | (refine wpList_alloc_row rfl 68 rfl _ info35' ?_) | (refine wpList_store_row rfl 68 _ _ rfl _ (tabCells 256) rfl rfl 68 (tabCells 0) (heap_alloc_new _ _) (by kernel_rfl) (by rw [tab_size, tab_size]) (tab_one _) ?_))
  have H5 := Aside0.mk (setRow_heap _ _ _ (tabCells 256) _ _ (heap_alloc_new w1 (.cells (tabCells 0) 68)))
  have HB2 := Aside0.mk (below_setRow (HB.out.alloc (HB.out.size) (.cells (tabCells 0) 68)) HB.out.size (tabCells 256))
  have HR := Aside0.mk (Kd.C_below HR1.out HB2.out)
  have hsz : w.heap.size ≤ w1.heap.size := HB.out.size
  clear HB HR1
  generalize (w1.alloc (Obj.cells (tabCells 0) 68)).setRow w1.heap.size (tabCells 256) = w2 at *
  generalize w1.heap.size = g at *
  clear w1
  go_loop [0, 13] (fun v0 v13 => ∃ k : Nat, k ≤ l1.length ∧ v13 = .int .i64 k ∧ v0 = .int .u32 (crcRun (l1.take k) (bits .xor .u32 4294967295 a0))) (fun _ v13 => l1.length - (intOf v13).toNat)
  case atStart => exact ⟨0, by omega, rfl, rfl⟩
  case round =>
    obtain ⟨k, hk, rfl, rfl⟩ := hrel
    by_cases hlt : k < l1.length
    · obtain ⟨ad, rfl, hcell⟩ := Kd.at_int HR.out k (by omega) (by omega)
      simp only [Int.toNat_natCast] at hcell
      have hx := bits_u8 .xor (crcRun (l1.take k) (bits .xor .u32 4294967295 a0) % 256) (rd l1 k)
      have hc : w2.cell? ⟨g, (bits BinOp.xor IntKind.u8 (crcRun (l1.take k) (bits .xor .u32 4294967295 a0) % 256) (rd l1 k)).toNat, none⟩ = some (.int .u32 (crcSteps 8 (bits BinOp.xor IntKind.u8 (crcRun (l1.take k) (bits .xor .u32 4294967295 a0) % 256) (rd l1 k)))) := by
        rw [cell_of_row _ _ _ _ _ _ H5.out, tab_at _ _ (by omega), if_pos (by omega), Int.toNat_of_nonneg hx.1]
      have ht := Aside0.mk (crcRun_take l1 (bits .xor .u32 4294967295 a0) k hlt)
      have hx1 := eq_true hx.1
      have hx2 := eq_true hx.2
      go_wp2
      go_round
      case rel => exact ⟨k + 1, by omega, by go_num, by rw [ht.out]; rfl⟩
      case measure => simp [intOf]; omega
    · obtain rfl : k = l1.length := by omega
      go_wp2
      go_ret
      exact ⟨by first | rfl | (simp; done), HB2.out⟩
end Go.Proofs.YtpnlpbbnakplhaaDoor
