/- (*words).add of the given program: the walk of one block. -/
import Derived.Test.YtpnlpbbnakplhaaDoorShaRound
import Derived.Below
import Derived.Deep.Draws
import Derived.Deep.AppendLies
import Derived.Maps.AppendAt
import Derived.OwnWalk
import Derived.Laws.BytesArg
import Derived.Laws.MakeOwn
import Derived.Laws.OwnMore
import Derived.Deep.OwnRows
import Derived.Tactics
import Derived.Lib.ConvBytes
import Derived.Laws.Slices
import Derived.WalkKit
import Derived.KernelRfl
import Derived.RowKit3
import Derived.Deep.LoopGhost
import Derived.Deep.QuietTactic
import Derived.BigQuiet
import Derived.WideLaws
import Derived.Deep.DeepCutAuto
import Derived.Deep.CutBlock
import Derived.Deep.RegionHeld3
import Derived.Laws.Rows
import Derived.Lib.AppendStr
import Derived.ArgAppend
import Derived.Laws.IdiomCopy
import Derived.OrdersHeld
import Derived.Laws.BitsLemmas
import Derived.RowKit
import Derived.Test.YtpnlpbbnakplhaaDoorBase
import Derived.Test.YtpnlpbbnakplhaaDoorWords
import Derived.Deep.QuietTactic
import Derived.BigQuiet
import Derived.StillTailTactics
import Derived.Outline
namespace Go.Proofs.YtpnlpbbnakplhaaDoor
open Go.RowKit Go.Proofs.YtpnlpbbnakplhaaDoorW.PrintWords Go.Proofs.YtpnlpbbnakplhaaDoorW.PrintMore
set_option linter.unusedVariables false
/-- Only block g may be another one. -/
structure But (g : Nat) (w w' : World) : Prop where
  os : w'.os = w.os
  tape : w'.tape = w.tape
  output : w'.output = w.output
  size : w.heap.size ≤ w'.heap.size
  block : ∀ k, k < w.heap.size → k ≠ g → w'.heap[k]? = w.heap[k]?
def bits_RotateLeft32.f (a0 a1 : Int) : Option Int := (if 0 ≤ (Go.bits .and .u64 (IntKind.u64.wrap (a1)) 31) then (if 0 ≤ (IntKind.u64.wrap (32 - (Go.bits .and .u64 (IntKind.u64.wrap (a1)) 31))) then (some (Go.bits .or .u32 (shl .u32 a0 (Go.bits .and .u64 (IntKind.u64.wrap (a1)) 31)) (shr .u32 a0 (IntKind.u64.wrap (32 - (Go.bits .and .u64 (IntKind.u64.wrap (a1)) 31)))))) else (none)) else (none))
def rotI (x k : Int) : Int := Go.bits .or .u32 (shl .u32 x (Go.bits .and .u64 (IntKind.u64.wrap k) 31)) (shr .u32 x (IntKind.u64.wrap (32 - (Go.bits .and .u64 (IntKind.u64.wrap k) 31))))
theorem u64_nonneg (n : Int) : 0 ≤ IntKind.u64.wrap n := by
  simp [IntKind.wrap, IntKind.bits, IntKind.signed]
  omega
theorem rot_some (x k : Int) : bits_RotateLeft32.f x k = some (rotI x k) := by
  unfold bits_RotateLeft32.f
  rw [if_pos (by unfold Go.bits; exact u64_nonneg _), if_pos (u64_nonneg _)]
  rfl
set_option maxRecDepth 100000 in
set_option maxHeartbeats 1000000 in
theorem rot_raw (a0 a1 r : Int) (w : World) (h : bits_RotateLeft32.f a0 a1 = some r) : Calls Tryd.prog 51 #[.int .u32 a0, .int .i64 a1] w fun e w' => e = .returned (.int .u32 r) ∧ w' = w := by
  have H : (if 0 ≤ (Go.bits .and .u64 (IntKind.u64.wrap (a1)) 31) then (if 0 ≤ (IntKind.u64.wrap (32 - (Go.bits .and .u64 (IntKind.u64.wrap (a1)) 31))) then (some (Go.bits .or .u32 (shl .u32 a0 (Go.bits .and .u64 (IntKind.u64.wrap (a1)) 31)) (shr .u32 a0 (IntKind.u64.wrap (32 - (Go.bits .and .u64 (IntKind.u64.wrap (a1)) 31)))))) else (none)) else (none)) = some r := h
  clear h
  obtain ⟨ji3, hji3⟩ : ∃ j_ : Int, (Go.bits .and .u64 (IntKind.u64.wrap (a1)) 31) = j_ := ⟨_, rfl⟩
  replace H : (if 0 ≤ (ji3) then (if 0 ≤ (IntKind.u64.wrap (32 - (ji3))) then (some (Go.bits .or .u32 (shl .u32 a0 (ji3)) (shr .u32 a0 (IntKind.u64.wrap (32 - (ji3)))))) else (none)) else (none)) = some r := by first | (rw [hji3] at H; exact H) | (simp only [hji3] at H ⊢; exact H)
  by_cases c4 : 0 ≤ (ji3)
  · rw [if_pos c4] at H
    have c4b0 := eq_true c4
    have c4b1 : decide (0 ≤ (ji3)) = true := decide_eq_true c4
    clear c4
    obtain ⟨ji5, hji5⟩ : ∃ j_ : Int, (shl .u32 a0 (ji3)) = j_ := ⟨_, rfl⟩
    replace H : (if 0 ≤ (IntKind.u64.wrap (32 - (ji3))) then (some (Go.bits .or .u32 (ji5) (shr .u32 a0 (IntKind.u64.wrap (32 - (ji3)))))) else (none)) = some r := by first | (rw [hji5] at H; exact H) | (simp only [hji5] at H ⊢; exact H)
    have hji5_ : (IntKind.u32.wrap (a0 * 2 ^ min (ji3).toNat 32)) = ji5 := hji5
    have hji5z : (ji3) ≤ 32 → (IntKind.u32.wrap (a0 * 2 ^ (ji3).toNat)) = ji5 := shl_small hji5
    obtain ⟨ji6, hji6⟩ : ∃ j_ : Int, (IntKind.u64.wrap (32 - (ji3))) = j_ := ⟨_, rfl⟩
    replace H : (if 0 ≤ (ji6) then (some (Go.bits .or .u32 (ji5) (shr .u32 a0 (ji6)))) else (none)) = some r := by first | (rw [hji6] at H; exact H) | (simp only [hji6] at H ⊢; exact H)
    by_cases c7 : 0 ≤ (ji6)
    · rw [if_pos c7] at H
      have c7b0 := eq_true c7
      have c7b1 : decide (0 ≤ (ji6)) = true := decide_eq_true c7
      clear c7
      obtain ⟨ji8, hji8⟩ : ∃ j_ : Int, (shr .u32 a0 (ji6)) = j_ := ⟨_, rfl⟩
      replace H : (some (Go.bits .or .u32 (ji5) (ji8))) = some r := by first | (rw [hji8] at H; exact H) | (simp only [hji8] at H ⊢; exact H)
      have hji8_ : (a0 / 2 ^ min (ji6).toNat 32) = ji8 := hji8
      have hji8z : (ji6) ≤ 32 → (a0 / 2 ^ (ji6).toNat) = ji8 := shr_small hji8
      obtain rfl := Option.some.inj H
      go_enter Tryd.func51, Tryd.ntmps51
      go_wp2
      go_ret
      exact ⟨by first | rfl | (simp; done) | (simp only [← hji3, ← hji5, ← hji6, ← hji8] <;> (first | rfl | simp)) | (simp [*]; done), rfl⟩
    · rw [if_neg c7] at H
      exact absurd H (by simp)
  · rw [if_neg c4] at H
    exact absurd H (by simp)

theorem rot_same (x k : Int) (w : World) : Calls Tryd.prog 51 #[.int .u32 x, .int .i64 k] w fun e w' => e = .returned (.int .u32 (rotI x k)) ∧ w' = w := rot_raw x k _ w (rot_some x k)
/-- A second quiet region: the world has been drawn before. -/
theorem quiet_add_same {P : Program} {f : FuncId} {args : Array Value} {w : World} {a n : Nat} {v : Value} (h : Calls P f args (w.drewN (a + n)) fun e w' => e = .returned v ∧ w' = w.drewN (a + n)) :
    Calls P f args (w.drewN (a + n)) fun e w'' => e = .returned v ∧ ∃ m, w'' = w.drewN (a + m) :=
  h.mono fun _ _ ⟨he, hw⟩ => ⟨he, n, hw⟩
/-- A row of n numbers of which the first are told, the others 0. -/
def part32 (n : Nat) (l : List Int) : Array Value := Array.ofFn (n := n) fun i => Value.int .u32 (rd l i.val)
theorem part_size (n : Nat) (l : List Int) : (part32 n l).size = n := by simp [part32]
theorem part_at (n : Nat) (l : List Int) (i : Nat) (h : i < n) : (part32 n l)[i]? = some (.int .u32 (rd l i)) := by simp [part32, h]
theorem part_zero (n : Nat) : Array.replicate n (Value.int .u32 0) = part32 n [] := by
  apply Array.ext
  · simp [part32]
  · intro i h1 h2
    simp [part32, rd]
theorem part_put (n : Nat) (l : List Int) (v : Int) (h : l.length < n) : (part32 n l).setIfInBounds l.length (.int .u32 v) = part32 n (l ++ [v]) := by
  apply Array.ext
  · simp [part32]
  · intro i h1 h2
    have h2' : i < n := by simpa [part32] using h2
    rw [Array.getElem_setIfInBounds]
    · simp only [part32, Array.getElem_ofFn]
      by_cases e : l.length = i
      · subst e; simp [rd]
      · rw [if_neg e]
        by_cases hl : i < l.length
        · have := List.getElem?_append_left (l₂ := [v]) hl
          simp [rd, List.getD, hl, this]
        · simp [rd, List.getD, hl]
          rw [List.getElem?_append_right (by omega)]
          cases hh : i - l.length with
          | zero => omega
          | succ m => simp
    · simpa [part32] using h2'
theorem part_one (n : Nat) (l : List Int) : (part32 n l).all (·.oneCell') = true := by
  rw [Array.all_eq_true]
  intro i h
  simp [part32]
  rfl
theorem part8 (a b c d e f g h : Int) : #[Value.int .u32 a, Value.int .u32 b, Value.int .u32 c, Value.int .u32 d, Value.int .u32 e, Value.int .u32 f, Value.int .u32 g, Value.int .u32 h] = part32 8 [a, b, c, d, e, f, g, h] := by
  apply Array.ext
  · simp [part32]
  · intro i h1 h2
    have h8 : i < 8 := by simpa using h1
    have : i = 0 ∨ i = 1 ∨ i = 2 ∨ i = 3 ∨ i = 4 ∨ i = 5 ∨ i = 6 ∨ i = 7 := by omega
    rcases this with rfl | rfl | rfl | rfl | rfl | rfl | rfl | rfl <;> simp [part32, rd]
theorem info40 : (Tryd.prog.info? 67).bind (·.zero) = some (.agg (part32 64 [])) := by rw [← part_zero]; kernel_rfl
theorem info32 : (Tryd.prog.info? 62).bind (·.zero) = some (.agg (part32 8 [])) := by rw [← part_zero]; kernel_rfl
theorem add_next (ad : Addr) (m k : Nat) (hk : 0 < k) : ad.add (m + k) = ⟨(ad.add m).block, (ad.add m).off + k, none⟩ := by
  unfold Addr.add
  by_cases h : m = 0
  · subst h
    cases k with
    | zero => omega
    | succ k => simp
  · cases m with
    | zero => omega
    | succ m =>
      cases k with
      | zero => omega
      | succ k => simp [Nat.add_assoc]
def be32 (b : List Int) (t : Nat) : Int :=
  bits BinOp.or IntKind.u32 (bits BinOp.or IntKind.u32 (bits BinOp.or IntKind.u32 (rd b (4 * (t : Int)) % 4294967296 * 16777216 % 4294967296) (rd b (4 * (t : Int) + 1) % 4294967296 * 65536 % 4294967296)) (rd b (4 * (t : Int) + 2) % 4294967296 * 256 % 4294967296)) (rd b (4 * (t : Int) + 3) % 4294967296)
def mixI (l : List Int) (t : Nat) : Int :=
  (rd l ((t - 16 : Nat) : Int) + rd l ((t - 7 : Nat) : Int) + bits BinOp.xor IntKind.u32 (bits BinOp.xor IntKind.u32 (rotI (rd l ((t - 15 : Nat) : Int)) (-7)) (rotI (rd l ((t - 15 : Nat) : Int)) (-18))) (rd l ((t - 15 : Nat) : Int) / 8) + bits BinOp.xor IntKind.u32 (bits BinOp.xor IntKind.u32 (rotI (rd l ((t - 2 : Nat) : Int)) (-17)) (rotI (rd l ((t - 2 : Nat) : Int)) (-19))) (rd l ((t - 2 : Nat) : Int) / 1024)) % 4294967296
def nextI (b l : List Int) (t : Nat) : Int := if t < 16 then be32 b t else mixI l t
def sched (b : List Int) : Nat → List Int
  | 0 => []
  | t + 1 => sched b t ++ [nextI b (sched b t) t]
theorem sched_length (b : List Int) (t : Nat) : (sched b t).length = t := by
  induction t with
  | zero => rfl
  | succ t ih => simp [sched, ih]
theorem run_index_cells (l : List Int) (i : Nat) (hl : l.length = 64) (hi : i < 64) (w : World) : (Instr.index 67 (.agg (cells32 l)) (.int .i64 i)).run Tryd.prog w = .ok (.int .u32 (rd l i)) w := by
  have hs : (sizeOf 38).run Tryd.prog w = .ok 1 w := by kernel_rfl
  have ha : (isAgg 38).run Tryd.prog w = .ok false w := by kernel_rfl
  have hc := cells32_at l i (by omega)
  simp [Instr.index, asIntOf, run_underlying Tryd.underlying67, hs, part, hc]
  intro h
  omega
def uI (v : List Int) (n wt : Int) : Int :=
  rd v 7 + bits BinOp.xor IntKind.u32 (bits BinOp.xor IntKind.u32 (rotI (rd v 4) (-6)) (rotI (rd v 4) (-11))) (rotI (rd v 4) (-25)) +
    bits BinOp.xor IntKind.u32 (bits BinOp.and IntKind.u32 (rd v 4) (rd v 5)) (bits BinOp.and IntKind.u32 (bits BinOp.xor IntKind.u32 4294967295 (rd v 4)) (rd v 6)) + n + wt
def xI (v : List Int) : Int :=
  bits BinOp.xor IntKind.u32 (bits BinOp.xor IntKind.u32 (rotI (rd v 0) (-2)) (rotI (rd v 0) (-13))) (rotI (rd v 0) (-22)) +
    bits BinOp.xor IntKind.u32 (bits BinOp.xor IntKind.u32 (bits BinOp.and IntKind.u32 (rd v 0) (rd v 1)) (bits BinOp.and IntKind.u32 (rd v 0) (rd v 2))) (bits BinOp.and IntKind.u32 (rd v 1) (rd v 2))
def roundB (v : List Int) (n wt : Int) : List Int := [(uI v n wt + xI v) % 4294967296, rd v 0, rd v 1, rd v 2, (rd v 3 + uI v n wt) % 4294967296, rd v 4, rd v 5, rd v 6]
theorem set8cs (cs : Array Value) (hs : cs.size = 8) (a b c d e f h i : Value) :
    ((((((((cs.setIfInBounds 0 a).setIfInBounds 1 b).setIfInBounds 2 c).setIfInBounds 3 d).setIfInBounds 4 e).setIfInBounds 5 f).setIfInBounds 6 h).setIfInBounds 7 i) = #[a, b, c, d, e, f, h, i] := by
  obtain ⟨l⟩ := cs
  match l, hs with
  | [x0, x1, x2, x3, x4, x5, x6, x7], _ => simp only [List.setIfInBounds_toArray, List.set_cons_zero, List.set_cons_succ]
theorem set8 (w : World) (g : Nat) (cs : Array Value) (hs : cs.size = 8) (hg : w.heap[g]? = some (.cells cs 62 (0, 0))) (a b c d e f h i : Value) :
    ((((((((w.setCell ⟨g, 0, none⟩ a).setCell ⟨g, 1, none⟩ b).setCell ⟨g, 2, none⟩ c).setCell ⟨g, 3, none⟩ d).setCell ⟨g, 4, none⟩ e).setCell ⟨g, 5, none⟩ f).setCell ⟨g, 6, none⟩ h).setCell ⟨g, 7, none⟩ i).heap[g]? = some (.cells #[a, b, c, d, e, f, h, i] 62 (0, 0)) := by
  have h1 := heap_setCell_same w g 0 cs 62 a hg
  have h2 := heap_setCell_same _ g 1 _ 62 b h1
  have h3 := heap_setCell_same _ g 2 _ 62 c h2
  have h4 := heap_setCell_same _ g 3 _ 62 d h3
  have h5 := heap_setCell_same _ g 4 _ 62 e h4
  have h6 := heap_setCell_same _ g 5 _ 62 f h5
  have h7 := heap_setCell_same _ g 6 _ 62 h h6
  have h8 := heap_setCell_same _ g 7 _ 62 i h7
  refine h8.trans ?_
  rw [set8cs cs hs]
def rounds (s ws : List Int) : Nat → List Int
  | 0 => s
  | n + 1 => roundB (rounds s ws n) (rd addedNums n) (rd ws n)
theorem rounds_length (s ws : List Int) (hs : s.length = 8) (n : Nat) : (rounds s ws n).length = 8 := by
  cases n with
  | zero => exact hs
  | succ n => rfl
def addTo (s v : List Int) (i : Nat) : List Int := (List.range 8).map fun (j : Nat) => if j < i then (rd s j + rd v j) % 4294967296 else rd s j
theorem rd_addTo (s v : List Int) (i j : Nat) (h : j < 8) : rd (addTo s v i) j = if j < i then (rd s j + rd v j) % 4294967296 else rd s j := by
  simp [addTo, rd, h]
theorem addTo_zero (s v : List Int) : part32 8 s = part32 8 (addTo s v 0) := by
  apply Array.ext
  · simp [part32]
  · intro j h1 h2
    have h8 : j < 8 := by simpa [part32] using h1
    simp only [part32, Array.getElem_ofFn]
    rw [rd_addTo s v 0 j h8, if_neg (by omega)]
theorem addTo_put (s v : List Int) (i : Nat) (h : i < 8) : (part32 8 (addTo s v i)).setIfInBounds i (.int .u32 ((rd s i + rd v i) % 4294967296)) = part32 8 (addTo s v (i + 1)) := by
  apply Array.ext
  · simp [part32]
  · intro j h1 h2
    have h8 : j < 8 := by simpa [part32] using h2
    rw [Array.getElem_setIfInBounds]
    · simp only [part32, Array.getElem_ofFn]
      rw [rd_addTo s v i j h8, rd_addTo s v (i + 1) j h8]
      by_cases e : i = j
      · subst e; rw [if_pos rfl, if_pos (by omega)]
      · rw [if_neg e]
        by_cases hl : j < i
        · rw [if_pos hl, if_pos (by omega)]
        · rw [if_neg hl, if_neg (by omega)]
    · simpa [part32] using h8
def addB (s b : List Int) : List Int := addTo s (rounds s (sched b 64) 64) 8
theorem But.drewN {g : Nat} {w w' : World} (h : But g w w') (n : Nat) : But g w (w'.drewN n) := ⟨h.os, h.tape, h.output, h.size, h.block⟩
theorem But.drew {g : Nat} {w w' : World} (h : But g w w') : But g w w'.drew := ⟨h.os, h.tape, h.output, h.size, h.block⟩
theorem But.of_below {g : Nat} {w w' : World} (h : Below w.heap.size w w') : But g w w' := ⟨h.os, h.tape, h.output, h.size, fun k hk _ => h.block k hk⟩
theorem But.setCell {g : Nat} {w w' : World} (h : But g w w') (j : Nat) (u : Value) : But g w (w'.setCell ⟨g, j, none⟩ u) :=
  ⟨h.os, h.tape, h.output, by simpa [World.setCell] using h.size, fun k hk hg => (Below.heap_setCell w' ⟨g, j, none⟩ u k hg).trans (h.block k hk hg)⟩

set_option maxRecDepth 100000 in
set_option maxHeartbeats 4000000 in
theorem sha_add.calls (g : Nat) (A : Option Addr) (c : Nat) (b s : List Int) (w : World) (hG : Glob w) (hs : s.length = 8) (hb : b.length = 64)
    (hrow : w.heap[g]? = some (.cells (part32 8 s) 62 (0, 0))) (hr : Kd.C (Kd.int .u8) w A 64 b) (hc : 64 ≤ c) :
    Calls Tryd.prog 46 #[.pointer (some ⟨g, 0, none⟩), .slice A 64 c] w fun e w' => w'.heap[g]? = some (.cells (part32 8 (addB s b)) 62 (0, 0)) ∧ But g w w' ∧ e = .returned (.tuple #[]) := by
  obtain ⟨ad, rfl, _⟩ := Kd.at_int hr 0 (by omega) (by omega)
  have HG := Aside0.mk hG
  have HR := Aside0.mk hr
  have HW := Aside0.mk hrow
  have HS := Aside0.mk hs
  have HL := Aside0.mk hb
  clear hG hr hrow hs hb
  go_enter Tryd.func46, Tryd.ntmps46
  go_wp2_with (refine wpList_alloc_row rfl 67 rfl _ info40 ?_)
  go_loopw [17] (fun v17 wr => ∃ t : Nat, t ≤ 64 ∧ v17 = .int .i64 t ∧ Aside0 (wr.heap[w.heap.size]? = some (.cells (part32 64 (sched b t)) 67 (0, 0))) ∧ Aside0 (Below w.heap.size w wr)) (fun v17 _ => 64 - (intOf v17).toNat)
  case atStart => exact ⟨0, by omega, rfl, ⟨heap_alloc_new _ _⟩, ⟨(Below.refl _ _).alloc (Nat.le_refl _) _⟩⟩
  case round =>
    obtain ⟨t, ht, rfl, H1, HB⟩ := hrel
    by_cases hlt : t < 64
    · by_cases h16 : t < 16
      · have HRr := Aside0.mk (Kd.C_below HR.out HB.out)
        have hcs : ∀ j : Nat, j < 64 → wr.cell? (ad.add j) = some (.int .u8 (rd b (j : Int))) := by
          intro j hj
          obtain ⟨ad', e', hc'⟩ := Kd.at_int HRr.out (j : Int) (by omega) (by omega)
          cases e'
          simpa using hc'
        have hc0 := hcs (4 * t) (by omega)
        have hc1 := hcs (4 * t + 1) (by omega)
        have hc2 := hcs (4 * t + 2) (by omega)
        have hc3 := hcs (4 * t + 3) (by omega)
        rw [add_next ad (4 * t) 1 (by decide)] at hc1
        rw [add_next ad (4 * t) 2 (by decide)] at hc2
        rw [add_next ad (4 * t) 3 (by decide)] at hc3
        clear hcs
        go_wp2
        go_outline
        have l0 : 0 < 64 - 4 * t := by omega
        have l1 : (1 : Int) < ((64 - 4 * t : Nat) : Int) := by omega
        have l2 : (2 : Int) < ((64 - 4 * t : Nat) : Int) := by omega
        have l3 : (3 : Int) < ((64 - 4 * t : Nat) : Int) := by omega
        have hcw : wr.cell? ⟨w.heap.size, t, none⟩ = some (.int .u32 (rd (sched b t) t)) := by rw [cell_of_row _ _ _ _ _ _ H1.out, part_at _ _ _ (by omega)]
        have hfw : wr.frozen? ⟨w.heap.size, t, none⟩ = false := frozen_of_row _ _ _ _ _ H1.out
        have hnx : nextI b (sched b t) t = be32 b t := by unfold nextI; rw [if_pos h16]
        have Hnx := Aside0.mk hnx
        clear hnx
        go_still_tail 24, (by kernel_rfl)
        go_wp2
        go_roundw
        case rel =>
          refine ⟨t + 1, by omega, by go_num, ⟨?_⟩, ⟨(HB.out.setCell (by simp) _).drew⟩⟩
          refine (heap_setCell_same _ _ _ _ _ _ H1.out).trans ?_
          have hp := part_put 64 (sched b t) (be32 b t) (by rw [sched_length]; omega)
          rw [sched_length] at hp
          simp only [sched, Hnx.out, ← hp]
          rfl
        case measure => simp [intOf]; omega
      · have e15 : IntKind.i64.wrap ((t : Int) - 15) = ((t - 15 : Nat) : Int) := by rw [IntKind.wrap_i64]; omega
        have e2 : IntKind.i64.wrap ((t : Int) - 2) = ((t - 2 : Nat) : Int) := by rw [IntKind.wrap_i64]; omega
        have e16 : IntKind.i64.wrap ((t : Int) - 16) = ((t - 16 : Nat) : Int) := by rw [IntKind.wrap_i64]; omega
        have e7 : IntKind.i64.wrap ((t : Int) - 7) = ((t - 7 : Nat) : Int) := by rw [IntKind.wrap_i64]; omega
        have hcw : ∀ j : Nat, j < 64 → wr.cell? ⟨w.heap.size, j, none⟩ = some (.int .u32 (rd (sched b t) j)) := fun j hj => by rw [cell_of_row _ _ _ _ _ _ H1.out, part_at _ _ _ hj]
        have d15 := hcw (t - 15) (by omega)
        have d2 := hcw (t - 2) (by omega)
        have d16 := hcw (t - 16) (by omega)
        have d7 := hcw (t - 7) (by omega)
        have dt := hcw t (by omega)
        have hfw : wr.frozen? ⟨w.heap.size, t, none⟩ = false := frozen_of_row _ _ _ _ _ H1.out
        have b15 : ((t - 15 : Nat) : Int) < 64 := by omega
        have b2 : ((t - 2 : Nat) : Int) < 64 := by omega
        have b16 : ((t - 16 : Nat) : Int) < 64 := by omega
        have b7 : ((t - 7 : Nat) : Int) < 64 := by omega
        clear hcw
        have hnx : nextI b (sched b t) t = mixI (sched b t) t := by unfold nextI; rw [if_neg h16]
        have Hnx := Aside0.mk hnx
        clear hnx
        go_wp2
        go_quiet (fail)
        have H1q := Aside0.mk (show (wr.drewN nq).heap[w.heap.size]? = some (.cells (part32 64 (sched b t)) 67 (0, 0)) from H1.out)
        have HBq := Aside0.mk (pw_below_drewN HB.out nq)
        clear d15 d2 d16 d7 dt hfw H1 HB
        generalize wr.drewN nq = wq at *
        clear wr
        have hcw : ∀ j : Nat, j < 64 → wq.cell? ⟨w.heap.size, j, none⟩ = some (.int .u32 (rd (sched b t) j)) := fun j hj => by rw [cell_of_row _ _ _ _ _ _ H1q.out, part_at _ _ _ hj]
        have d16 := hcw (t - 16) (by omega)
        have d7 := hcw (t - 7) (by omega)
        have dt := hcw t (by omega)
        have hfw : wq.frozen? ⟨w.heap.size, t, none⟩ = false := frozen_of_row _ _ _ _ _ H1q.out
        clear hcw
        go_wp2
        go_still_tail 29, (by kernel_rfl)
        repeat (first | still_step | (still_call (rot_same _ _ _)))
        refine wpStill_nil ?_
        go_wp2
        go_roundw
        case rel =>
          refine ⟨t + 1, by omega, by go_num, ⟨?_⟩, ⟨(HBq.out.setCell (by simp) _).drew⟩⟩
          refine (heap_setCell_same _ _ _ _ _ _ H1q.out).trans ?_
          have hp := part_put 64 (sched b t) (mixI (sched b t) t) (by rw [sched_length]; omega)
          rw [sched_length] at hp
          simp only [sched, Hnx.out, ← hp]
          rfl
        case measure => simp [intOf]; omega
    · obtain rfl : t = 64 := by omega
      have hgl : g < w.heap.size := (Array.getElem?_eq_some_iff.1 HW.out).1
      have HWr := Aside0.mk ((HB.out.block g hgl).trans HW.out)
      have HGr := Aside0.mk (HG.out.below HB.out)
      obtain ⟨ta, fra, hadd⟩ := HGr.out.added
      have HA := Aside0.mk hadd
      clear hadd
      have h1s := HGr.out.size
      go_upto_region 11 with (first | (refine wpList_alloc_row rfl 62 rfl _ info32 ?_) | (refine wpList_load_row rfl 62 _ rfl g rfl 62 _ _ _ HWr.out Tryd.underlying62 rfl (by kernel_rfl) ?_) | (refine wpList_store_row rfl 62 _ _ rfl _ (part32 8 s) rfl rfl 62 (part32 8 []) (heap_alloc_new _ _) (by kernel_rfl) (by rw [part_size, part_size]) (part_one _ _) ?_))
      have HA2 := Aside0.mk (show ((wr.alloc (.cells (part32 8 []) 62)).setRow wr.heap.size (part32 8 s)).heap[1]? = some (.cells (cells32 addedNums) ta fra) by
        rw [setRow_other _ _ _ _ (by omega), _root_.Go.heap_alloc_old _ _ h1s]; exact HA.out)
      have HV := Aside0.mk (setRow_heap _ _ _ (part32 8 s) _ _ (heap_alloc_new wr (.cells (part32 8 []) 62)))
      have HSC := Aside0.mk (show ((wr.alloc (.cells (part32 8 []) 62)).setRow wr.heap.size (part32 8 s)).heap[w.heap.size]? = some (.cells (part32 64 (sched b 64)) 67 (0, 0)) by
        have hlt := (Array.getElem?_eq_some_iff.1 H1.out).1
        rw [setRow_other _ _ _ _ (by omega), _root_.Go.heap_alloc_old _ _ hlt]; exact H1.out)
      have HB2 := Aside0.mk (below_setRow (HB.out.alloc HB.out.size (.cells (part32 8 []) 62)) HB.out.size (part32 8 s))
      have hgv : wr.heap.size ≠ w.heap.size := by
        have hlt := (Array.getElem?_eq_some_iff.1 H1.out).1
        omega
      have hvs : w.heap.size ≤ wr.heap.size := HB.out.size
      clear HA H1 HB HWr HGr h1s
      generalize (wr.alloc (.cells (part32 8 []) 62)).setRow wr.heap.size (part32 8 s) = wv at *
      generalize wr.heap.size = gv at *
      clear wr
      go_wp2_with (refine wpList_load_row rfl 67 _ rfl 1 rfl ta (cells32 addedNums) fra _ HA2.out Tryd.underlying67 rfl (by kernel_rfl) ?_)
      go_loopw [92] (fun v92 wr => ∃ n : Nat, n ≤ 64 ∧ v92 = .int .i64 n ∧ Aside0 (wr.heap[gv]? = some (.cells (part32 8 (rounds s (sched b 64) n)) 62 (0, 0))) ∧ Aside0 (wr.heap[w.heap.size]? = some (.cells (part32 64 (sched b 64)) 67 (0, 0))) ∧ Aside0 (Below w.heap.size w wr)) (fun v92 _ => 64 - (intOf v92).toNat)
      case atStart => exact ⟨0, by omega, rfl, HV, HSC, HB2⟩
      case round =>
        obtain ⟨n, hn, rfl, H9, H4, HB⟩ := hrel
        clear HV HSC HB2 HA2 wv
        by_cases hlt : n < 64
        · have hix := run_index_cells addedNums n rfl hlt
          have hv : ∀ j : Nat, j < 8 → wr.cell? ⟨gv, j, none⟩ = some (.int .u32 (rd (rounds s (sched b 64) n) j)) := fun j hj => by rw [cell_of_row _ _ _ _ _ _ H9.out, part_at _ _ _ hj]
          have v0 := hv 0 (by omega)
          have v1 := hv 1 (by omega)
          have v2 := hv 2 (by omega)
          have v3 := hv 3 (by omega)
          have v4 := hv 4 (by omega)
          have v5 := hv 5 (by omega)
          have v6 := hv 6 (by omega)
          have v7 := hv 7 (by omega)
          have vw : wr.cell? ⟨w.heap.size, n, none⟩ = some (.int .u32 (rd (sched b 64) n)) := by rw [cell_of_row _ _ _ _ _ _ H4.out, part_at _ _ _ hlt]
          have hf : ∀ j : Nat, wr.frozen? ⟨gv, j, none⟩ = false := fun j => frozen_of_row _ _ _ _ _ H9.out
          have f0 := hf 0
          have f1 := hf 1
          have f2 := hf 2
          have f3 := hf 3
          have f4 := hf 4
          have f5 := hf 5
          have f6 := hf 6
          have f7 := hf 7
          clear hv hf
          generalize hvn : rounds s (sched b 64) n = v at *
          have Hv := Aside0.mk hvn
          clear hvn
          go_wp2
          go_quiet (fail)
          go_wp2
          go_quiet ((go_at_call 51; exact quiet_add_same (rot_same _ _ _)))
          go_wp2
          go_quiet ((go_at_call 51; exact quiet_add_same (rot_same _ _ _)))
          go_wp2
          go_roundw
          case rel =>
            refine ⟨n + 1, by omega, by go_num, ⟨?_⟩, ⟨?_⟩, ⟨?_⟩⟩
            · refine (set8 _ gv (part32 8 v) (part_size 8 v) H9.out _ _ _ _ _ _ _ _).trans ?_
              rw [part8]
              simp only [rounds, Hv.out]
              rfl
            · rw [heap_setCell_other _ _ _ _ hgv.symm, heap_setCell_other _ _ _ _ hgv.symm, heap_setCell_other _ _ _ _ hgv.symm, heap_setCell_other _ _ _ _ hgv.symm, heap_setCell_other _ _ _ _ hgv.symm, heap_setCell_other _ _ _ _ hgv.symm, heap_setCell_other _ _ _ _ hgv.symm, heap_setCell_other _ _ _ _ hgv.symm]
              exact H4.out
            · exact ((((((((pw_below_drewN HB.out _).setCell hvs _).setCell hvs _).setCell hvs _).setCell hvs _).setCell hvs _).setCell hvs _).setCell hvs _).setCell hvs _
          case measure => simp [intOf]; omega
        · obtain rfl : n = 64 := by omega
          have hgv2 : g ≠ gv := by omega
          go_wp2
          go_loopw [173] (fun v173 wr => ∃ i : Nat, i ≤ 8 ∧ v173 = .int .i64 i ∧ Aside0 (wr.heap[g]? = some (.cells (part32 8 (addTo s (rounds s (sched b 64) 64) i)) 62 (0, 0))) ∧ Aside0 (wr.heap[gv]? = some (.cells (part32 8 (rounds s (sched b 64) 64)) 62 (0, 0))) ∧ Aside0 (But g w wr)) (fun v173 _ => 8 - (intOf v173).toNat)
          case atStart => exact ⟨0, by omega, rfl, ⟨by rw [← addTo_zero]; exact (HB.out.block g hgl).trans HW.out⟩, H9, ⟨But.of_below HB.out⟩⟩
          case round =>
            obtain ⟨i, hi, rfl, HS1, HV1, HBU⟩ := hrel
            clear H9 H4 HB
            by_cases hi8 : i < 8
            · have cg : wr.cell? ⟨g, i, none⟩ = some (.int .u32 (rd s i)) := by rw [cell_of_row _ _ _ _ _ _ HS1.out, part_at _ _ _ hi8, rd_addTo _ _ _ _ hi8, if_neg (by omega)]
              have cv : wr.cell? ⟨gv, i, none⟩ = some (.int .u32 (rd (rounds s (sched b 64) 64) i)) := by rw [cell_of_row _ _ _ _ _ _ HV1.out, part_at _ _ _ hi8]
              have hfw : wr.frozen? ⟨g, i, none⟩ = false := frozen_of_row _ _ _ _ _ HS1.out
              generalize hvn : rounds s (sched b 64) 64 = v at *
              clear hvn
              go_wp2
              go_still_tail 11, (by kernel_rfl)
              go_wp2
              go_roundw
              case rel =>
                repeat apply Exists.intro
                refine ⟨⟨i + 1, by omega, ?_, ⟨?_⟩, ⟨?_⟩, ⟨(HBU.out.setCell i _).drew⟩⟩, rfl⟩
                · go_num
                · refine (heap_setCell_same _ _ _ _ _ _ HS1.out).trans ?_
                  rw [addTo_put s v i hi8]
                · exact (heap_setCell_other _ _ _ _ hgv2.symm).trans HV1.out
              case measure => simp [intOf]; omega
            · obtain rfl : i = 8 := by omega
              go_wp2
              go_end0
              exact ⟨HS1.out, HBU.out, rfl⟩
end Go.Proofs.YtpnlpbbnakplhaaDoor
