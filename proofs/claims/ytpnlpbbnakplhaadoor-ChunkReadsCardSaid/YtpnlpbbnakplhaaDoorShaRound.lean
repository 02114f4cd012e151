/- The two tables of sha, as they are laid. -/
import Derived.Test.YtpnlpbbnakplhaaDoorBase
namespace Go.Proofs.YtpnlpbbnakplhaaDoor
open Go.RowKit Go.Proofs.YtpnlpbbnakplhaaDoorW.PrintWords
set_option linter.unusedVariables false
def addedNums : List Int := [1116352408, 1899447441, 3049323471, 3921009573, 961987163, 1508970993, 2453635748, 2870763221, 3624381080, 310598401, 607225278, 1426881987, 1925078388, 2162078206, 2614888103, 3248222580, 3835390401, 4022224774, 264347078, 604807628, 770255983, 1249150122, 1555081692, 1996064986, 2554220882, 2821834349, 2952996808, 3210313671, 3336571891, 3584528711, 113926993, 338241895, 666307205, 773529912, 1294757372, 1396182291, 1695183700, 1986661051, 2177026350, 2456956037, 2730485921, 2820302411, 3259730800, 3345764771, 3516065817, 3600352804, 4094571909, 275423344, 430227734, 506948616, 659060556, 883997877, 958139571, 1322822218, 1537002063, 1747873779, 1955562222, 2024104815, 2227730452, 2361852424, 2428436474, 2756734187, 3204031479, 3329325298]
def begunNums : List Int := [1779033703, 3144134277, 1013904242, 2773480762, 1359893119, 2600822924, 528734635, 1541459225]
def cells32 (l : List Int) : Array Value := (l.map (Value.int .u32)).toArray
/-- The two tables, as they lie in memory. -/
structure Glob (w : World) : Prop where
  begun : ∃ t fr, w.heap[0]? = some (.cells (cells32 begunNums) t fr)
  added : ∃ t fr, w.heap[1]? = some (.cells (cells32 addedNums) t fr)
theorem Glob.size {w : World} (h : Glob w) : 1 < w.heap.size := by
  obtain ⟨t, fr, e⟩ := h.added
  exact (Array.getElem?_eq_some_iff.1 e).1
theorem Glob.below {w w' : World} (h : Glob w) (hb : Below w.heap.size w w') : Glob w' := by
  have hs := h.size
  obtain ⟨⟨t, fr, e⟩, ⟨t', fr', e'⟩⟩ := h
  exact ⟨⟨t, fr, (hb.block 0 (by omega)).trans e⟩, ⟨t', fr', (hb.block 1 hs).trans e'⟩⟩
theorem cells32_at (l : List Int) (i : Nat) (h : i < l.length) : (cells32 l)[i]? = some (.int .u32 (rd l i)) := by
  simp [cells32, rd, h]
theorem Glob.beginAt {w : World} (h : Glob w) (i : Nat) (hi : i < 8) : w.cell? ⟨0, i, none⟩ = some (.int .u32 (rd begunNums i)) := by
  obtain ⟨t, fr, e⟩ := h.begun
  rw [cell_of_row _ _ _ _ _ _ e, cells32_at _ _ hi]
theorem Glob.addAt {w : World} (h : Glob w) (i : Nat) (hi : i < 64) : w.cell? ⟨1, i, none⟩ = some (.int .u32 (rd addedNums i)) := by
  obtain ⟨t, fr, e⟩ := h.added
  rw [cell_of_row _ _ _ _ _ _ e, cells32_at _ _ hi]
end Go.Proofs.YtpnlpbbnakplhaaDoor
