/- strconv.Itoa and strconv.Atoi over the shadow, by the shelf's contracts. Condition: the table of powers of ten is laid (Laid). -/
import Derived.Test.YtobamidecbfgpaaGreatDoorGn
import Derived.Test.YtobamidecbfgpaaGreatDoorShelf
import Derived.Lib.AppendIntMem
namespace Go.Proofs.YtobamidecbfgpaaGreatDoor
open Go Go.Sh Go.RowKit
set_option linter.unusedVariables false
/-- The one table that is read. -/
def Laid (W : World) : Prop := Lib.TabBelow T W.heap.size W "internal/strconv.uint64pow10" .u64 Lib.pow10Tab
theorem below_grow (w : World) (os : Array Obj) : Below w.heap.size w (Go.Sort.grow w os) :=
  ⟨rfl, rfl, rfl, by simp [Go.Sort.grow], fun k hk => by simp [Go.Sort.grow, Array.getElem?_append, hk]⟩
theorem below_drewN {B : Nat} {w w' : World} (h : Below B w w') (n : Nat) : Below B w (w'.drewN n) := ⟨h.os, h.tape, h.output, h.size, h.block⟩
theorem freeze_block (w : World) (a : Addr) (n k : Nat) (h : k ≠ a.block) : (w.freeze a n).heap[k]? = w.heap[k]? := by
  unfold World.freeze
  split
  · rfl
  · simp only [Array.getElem?_modify]
    rw [if_neg (Ne.symm h)]
theorem below_bytes (w : World) (e : TypeId) (s : ByteArray) : Below w.heap.size w (Lib.bytesWorld w e s) := by
  refine ⟨?_, ?_, ?_, ?_, fun k hk => ?_⟩
  · unfold Lib.bytesWorld World.freeze; split <;> rfl
  · unfold Lib.bytesWorld World.freeze; split <;> rfl
  · unfold Lib.bytesWorld World.freeze; split <;> rfl
  · unfold Lib.bytesWorld World.freeze; split <;> simp
  · unfold Lib.bytesWorld
    rw [freeze_block _ _ _ _ (Nat.ne_of_lt hk)]
    exact Below.heap_alloc w.drew _ k hk
variable {W : World}
theorem args1 {pr : Nat → Nat} {w : World} {vs : List Value} {d : D} (h : RepVs (isoE pr) w vs [d]) : ∃ v, vs = [v] ∧ Rep (isoE pr) w v d := by
  obtain ⟨h1, h2⟩ := h
  match vs, h1 with
  | [v], _ => exact ⟨v, rfl, h2 0 (by simp)⟩
theorem itoa_ok (L : Laid W) (n : Int) (h0 : -9223372036854775808 ≤ n) (h1 : n ≤ 9223372036854775807) : Fc T W 47 [.i .i64 n] (.s (Lib.itoa n)) := by
  intro pr w vs hg hfr hvs
  obtain ⟨v, rfl, hv⟩ := args1 hvs
  cases hv
  refine (Tryz.strconv_Itoa n h0 h1 w (L w hg)).mono ?_
  rintro e w' ⟨rfl, k, os, rfl⟩
  have hb : Below w.heap.size w (Go.Sort.grow (w.drewN k) os) := (below_drewN (Below.refl w.heap.size w) k).trans (below_grow (w.drewN k) os)
  exact ⟨_, pr, rfl, .s _, hb, fun _ _ => rfl, fun b hb' => hfr b (Nat.le_trans hb.size hb')⟩
theorem atoi_ok (l : Str) (n : Int) (hl : l.length ≤ 18) (h : Lib.atoi l = some n) : Fc T W 66 [.s l] (.tu [.i .i64 n, .u]) := by
  intro pr w vs hg hfr hvs
  obtain ⟨v, rfl, hv⟩ := args1 hvs
  cases hv
  refine (Tryz.strconv_Atoi (bs l) n hl h w).mono ?_
  rintro e w' ⟨rfl, t, rfl⟩
  have hb : Below w.heap.size w (Lib.bytesWorld w 5 t) := below_bytes w 5 t
  refine ⟨_, pr, rfl, .tu [.int .i64 n, .nilIface] [.i .i64 n, .u] rfl (fun j hj => ?_), hb, fun _ _ => rfl, fun b hb' => hfr b (Nat.le_trans hb.size hb')⟩
  match j, hj with
  | 0, _ => exact .i _ _
  | 1, _ => exact .u _
end Go.Proofs.YtobamidecbfgpaaGreatDoor
