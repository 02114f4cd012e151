/- What the shadow's operations answer at this program's types, as equations for simp. No condition. -/
import Derived.Test.YtobamidecbfgpaaGreatDoorShW
namespace Go.Proofs.YtobamidecbfgpaaGreatDoor
open Go Go.Sh Go.RowKit
set_option linter.unusedVariables false
theorem ldr3 (bx : Nat → Nat → Option D) (d : D) : loadD T bx 3 (.rp d) = if d.isAg = false ∧ d.cells.length = 1 then some d else none := by kernel_rfl
theorem ldp3 (bx : Nat → Nat → Option D) (k g o : Nat) : loadD T bx 3 (.p k g o) = (bx k g).bind fun d => if o < d.cells.length then some (d.cells.getD o .u) else none := by kernel_rfl
theorem ldr4 (bx : Nat → Nat → Option D) (d : D) : loadD T bx 4 (.rp d) = if d.isAg = false ∧ d.cells.length = 1 then some d else none := by kernel_rfl
theorem ldp4 (bx : Nat → Nat → Option D) (k g o : Nat) : loadD T bx 4 (.p k g o) = (bx k g).bind fun d => if o < d.cells.length then some (d.cells.getD o .u) else none := by kernel_rfl
theorem ldr5 (bx : Nat → Nat → Option D) (d : D) : loadD T bx 5 (.rp d) = if d.isAg = false ∧ d.cells.length = 1 then some d else none := by kernel_rfl
theorem ldp5 (bx : Nat → Nat → Option D) (k g o : Nat) : loadD T bx 5 (.p k g o) = (bx k g).bind fun d => if o < d.cells.length then some (d.cells.getD o .u) else none := by kernel_rfl
theorem ldr9 (bx : Nat → Nat → Option D) (d : D) : loadD T bx 9 (.rp d) = if d.isAg = false ∧ d.cells.length = 1 then some d else none := by kernel_rfl
theorem ldp9 (bx : Nat → Nat → Option D) (k g o : Nat) : loadD T bx 9 (.p k g o) = (bx k g).bind fun d => if o < d.cells.length then some (d.cells.getD o .u) else none := by kernel_rfl
theorem ldr22 (bx : Nat → Nat → Option D) (d : D) : loadD T bx 22 (.rp d) = if d.isAg = false ∧ d.cells.length = 1 then some d else none := by kernel_rfl
theorem ldp22 (bx : Nat → Nat → Option D) (k g o : Nat) : loadD T bx 22 (.p k g o) = (bx k g).bind fun d => if o < d.cells.length then some (d.cells.getD o .u) else none := by kernel_rfl
theorem ldr23 (bx : Nat → Nat → Option D) (d : D) : loadD T bx 23 (.rp d) = if d.isAg = false ∧ d.cells.length = 1 then some d else none := by kernel_rfl
theorem ldp23 (bx : Nat → Nat → Option D) (k g o : Nat) : loadD T bx 23 (.p k g o) = (bx k g).bind fun d => if o < d.cells.length then some (d.cells.getD o .u) else none := by kernel_rfl
theorem ldr41 (bx : Nat → Nat → Option D) (d : D) : loadD T bx 41 (.rp d) = if d.isAg = false ∧ d.cells.length = 1 then some d else none := by kernel_rfl
theorem ldp41 (bx : Nat → Nat → Option D) (k g o : Nat) : loadD T bx 41 (.p k g o) = (bx k g).bind fun d => if o < d.cells.length then some (d.cells.getD o .u) else none := by kernel_rfl
theorem ldr42 (bx : Nat → Nat → Option D) (d : D) : loadD T bx 42 (.rp d) = if d.isAg = false ∧ d.cells.length = 1 then some d else none := by kernel_rfl
theorem ldp42 (bx : Nat → Nat → Option D) (k g o : Nat) : loadD T bx 42 (.p k g o) = (bx k g).bind fun d => if o < d.cells.length then some (d.cells.getD o .u) else none := by kernel_rfl
theorem ldr25 (bx : Nat → Nat → Option D) (d : D) : loadD T bx 25 (.rp d) = if d.isAg = true ∧ d.cells.length = 4 then some d else none := by kernel_rfl
theorem ldp25 (bx : Nat → Nat → Option D) (k g o : Nat) : loadD T bx 25 (.p k g o) = (bx k g).bind fun d => getc d o 4 true := by kernel_rfl
theorem ldr28 (bx : Nat → Nat → Option D) (d : D) : loadD T bx 28 (.rp d) = if d.isAg = true ∧ d.cells.length = 4 then some d else none := by kernel_rfl
theorem ldp28 (bx : Nat → Nat → Option D) (k g o : Nat) : loadD T bx 28 (.p k g o) = (bx k g).bind fun d => getc d o 4 true := by kernel_rfl
theorem ldr44 (bx : Nat → Nat → Option D) (d : D) : loadD T bx 44 (.rp d) = if d.isAg = true ∧ d.cells.length = 10 then some d else none := by kernel_rfl
theorem ldp44 (bx : Nat → Nat → Option D) (k g o : Nat) : loadD T bx 44 (.p k g o) = (bx k g).bind fun d => getc d o 10 true := by kernel_rfl
theorem ldr60 (bx : Nat → Nat → Option D) (d : D) : loadD T bx 60 (.rp d) = if d.isAg = true ∧ d.cells.length = 8 then some d else none := by kernel_rfl
theorem ldp60 (bx : Nat → Nat → Option D) (k g o : Nat) : loadD T bx 60 (.p k g o) = (bx k g).bind fun d => getc d o 8 true := by kernel_rfl
theorem ldr74 (bx : Nat → Nat → Option D) (d : D) : loadD T bx 74 (.rp d) = if d.isAg = true ∧ d.cells.length = 2 then some d else none := by kernel_rfl
theorem ldp74 (bx : Nat → Nat → Option D) (k g o : Nat) : loadD T bx 74 (.p k g o) = (bx k g).bind fun d => getc d o 2 true := by kernel_rfl
theorem ldr115 (bx : Nat → Nat → Option D) (d : D) : loadD T bx 115 (.rp d) = if d.isAg = true ∧ d.cells.length = 11 then some d else none := by kernel_rfl
theorem ldp115 (bx : Nat → Nat → Option D) (k g o : Nat) : loadD T bx 115 (.p k g o) = (bx k g).bind fun d => getc d o 11 true := by kernel_rfl
theorem ldr135 (bx : Nat → Nat → Option D) (d : D) : loadD T bx 135 (.rp d) = if d.isAg = true ∧ d.cells.length = 3 then some d else none := by kernel_rfl
theorem ldp135 (bx : Nat → Nat → Option D) (k g o : Nat) : loadD T bx 135 (.p k g o) = (bx k g).bind fun d => getc d o 3 true := by kernel_rfl
theorem ldr139 (bx : Nat → Nat → Option D) (d : D) : loadD T bx 139 (.rp d) = if d.isAg = true ∧ d.cells.length = 3 then some d else none := by kernel_rfl
theorem ldp139 (bx : Nat → Nat → Option D) (k g o : Nat) : loadD T bx 139 (.p k g o) = (bx k g).bind fun d => getc d o 3 true := by kernel_rfl
theorem ldr143 (bx : Nat → Nat → Option D) (d : D) : loadD T bx 143 (.rp d) = if d.isAg = true ∧ d.cells.length = 3 then some d else none := by kernel_rfl
theorem ldp143 (bx : Nat → Nat → Option D) (k g o : Nat) : loadD T bx 143 (.p k g o) = (bx k g).bind fun d => getc d o 3 true := by kernel_rfl
theorem ix22 (sz : Nat) (es : List D) (w : Own) (k : IntKind) (n : Int) : indexD T 22 (.sl sz es w) (.i k n) = if 0 ≤ n ∧ n < es.length ∧ some 1 = some sz then some (.rp (es.getD n.toNat .u)) else none := by kernel_rfl
theorem lenn22 : lenOk T 22 .nil = some (.i .i64 0) := by kernel_rfl
theorem lens22 (sz : Nat) (es : List D) (w : Own) : lenOk T 22 (.sl sz es w) = some (.i .i64 es.length) := by kernel_rfl
theorem und22 : T.underlying 22 = some (.slice 5) := by kernel_rfl
theorem lit22 (n : Nat) (ps : List (Nat × D)) (h : n ≤ 100000 ∧ ps.map (·.1) = List.range n ∧ ∀ p ∈ ps, p.2.solid = true ∧ p.2.cells.length = 1) : litD T 22 n ps = some (.sl 1 (ps.map (·.2)) .full) := by
  unfold litD
  simp only [und22, tsz5, zero5]
  exact if_pos ⟨by decide, by omega, rfl, rfl, h.2.1, h.2.2⟩
theorem ix23 (sz : Nat) (es : List D) (w : Own) (k : IntKind) (n : Int) : indexD T 23 (.sl sz es w) (.i k n) = if 0 ≤ n ∧ n < es.length ∧ some 10 = some sz then some (.rp (es.getD n.toNat .u)) else none := by kernel_rfl
theorem lenn23 : lenOk T 23 .nil = some (.i .i64 0) := by kernel_rfl
theorem lens23 (sz : Nat) (es : List D) (w : Own) : lenOk T 23 (.sl sz es w) = some (.i .i64 es.length) := by kernel_rfl
theorem und23 : T.underlying 23 = some (.slice 44) := by kernel_rfl
theorem lit23 (n : Nat) (ps : List (Nat × D)) (h : n ≤ 100000 ∧ ps.map (·.1) = List.range n ∧ ∀ p ∈ ps, p.2.solid = true ∧ p.2.cells.length = 10) : litD T 23 n ps = some (.sl 10 (ps.map (·.2)) .full) := by
  unfold litD
  simp only [und23, tsz44, zero44]
  exact if_pos ⟨by decide, by omega, rfl, rfl, h.2.1, h.2.2⟩
theorem ix41 (sz : Nat) (es : List D) (w : Own) (k : IntKind) (n : Int) : indexD T 41 (.sl sz es w) (.i k n) = if 0 ≤ n ∧ n < es.length ∧ some 1 = some sz then some (.rp (es.getD n.toNat .u)) else none := by kernel_rfl
theorem lenn41 : lenOk T 41 .nil = some (.i .i64 0) := by kernel_rfl
theorem lens41 (sz : Nat) (es : List D) (w : Own) : lenOk T 41 (.sl sz es w) = some (.i .i64 es.length) := by kernel_rfl
theorem und41 : T.underlying 41 = some (.slice 3) := by kernel_rfl
theorem lit41 (n : Nat) (ps : List (Nat × D)) (h : n ≤ 100000 ∧ ps.map (·.1) = List.range n ∧ ∀ p ∈ ps, p.2.solid = true ∧ p.2.cells.length = 1) : litD T 41 n ps = some (.sl 1 (ps.map (·.2)) .full) := by
  unfold litD
  simp only [und41, tsz3, zero3]
  exact if_pos ⟨by decide, by omega, rfl, rfl, h.2.1, h.2.2⟩
theorem ix42 (sz : Nat) (es : List D) (w : Own) (k : IntKind) (n : Int) : indexD T 42 (.sl sz es w) (.i k n) = if 0 ≤ n ∧ n < es.length ∧ some 8 = some sz then some (.rp (es.getD n.toNat .u)) else none := by kernel_rfl
theorem lenn42 : lenOk T 42 .nil = some (.i .i64 0) := by kernel_rfl
theorem lens42 (sz : Nat) (es : List D) (w : Own) : lenOk T 42 (.sl sz es w) = some (.i .i64 es.length) := by kernel_rfl
theorem und42 : T.underlying 42 = some (.slice 60) := by kernel_rfl
theorem lit42 (n : Nat) (ps : List (Nat × D)) (h : n ≤ 100000 ∧ ps.map (·.1) = List.range n ∧ ∀ p ∈ ps, p.2.solid = true ∧ p.2.cells.length = 8) : litD T 42 n ps = some (.sl 8 (ps.map (·.2)) .full) := by
  unfold litD
  simp only [und42, tsz60, zero60]
  exact if_pos ⟨by decide, by omega, rfl, rfl, h.2.1, h.2.2⟩
theorem ix53 (sz : Nat) (es : List D) (w : Own) (k : IntKind) (n : Int) : indexD T 53 (.sl sz es w) (.i k n) = if 0 ≤ n ∧ n < es.length ∧ some 2 = some sz then some (.rp (es.getD n.toNat .u)) else none := by kernel_rfl
theorem lenn53 : lenOk T 53 .nil = some (.i .i64 0) := by kernel_rfl
theorem lens53 (sz : Nat) (es : List D) (w : Own) : lenOk T 53 (.sl sz es w) = some (.i .i64 es.length) := by kernel_rfl
theorem und53 : T.underlying 53 = some (.slice 74) := by kernel_rfl
theorem lit53 (n : Nat) (ps : List (Nat × D)) (h : n ≤ 100000 ∧ ps.map (·.1) = List.range n ∧ ∀ p ∈ ps, p.2.solid = true ∧ p.2.cells.length = 2) : litD T 53 n ps = some (.sl 2 (ps.map (·.2)) .full) := by
  unfold litD
  simp only [und53, tsz74, zero74]
  exact if_pos ⟨by decide, by omega, rfl, rfl, h.2.1, h.2.2⟩
theorem ix58 (sz : Nat) (es : List D) (w : Own) (k : IntKind) (n : Int) : indexD T 58 (.sl sz es w) (.i k n) = if 0 ≤ n ∧ n < es.length ∧ some 1 = some sz then some (.rp (es.getD n.toNat .u)) else none := by kernel_rfl
theorem lenn58 : lenOk T 58 .nil = some (.i .i64 0) := by kernel_rfl
theorem lens58 (sz : Nat) (es : List D) (w : Own) : lenOk T 58 (.sl sz es w) = some (.i .i64 es.length) := by kernel_rfl
theorem und58 : T.underlying 58 = some (.slice 9) := by kernel_rfl
theorem lit58 (n : Nat) (ps : List (Nat × D)) (h : n ≤ 100000 ∧ ps.map (·.1) = List.range n ∧ ∀ p ∈ ps, p.2.solid = true ∧ p.2.cells.length = 1) : litD T 58 n ps = some (.sl 1 (ps.map (·.2)) .full) := by
  unfold litD
  simp only [und58, tsz9, zero9]
  exact if_pos ⟨by decide, by omega, rfl, rfl, h.2.1, h.2.2⟩
theorem lens9 (l : List UInt8) : lenOk T 9 (.s l) = some (.i .i64 l.length) := by kernel_rfl
theorem at9 (l : List UInt8) (k : IntKind) (n : Int) : strAtD T 9 (.s l) (.i k n) = if 0 ≤ n ∧ n < l.length then some (.i .u8 ((l.getD n.toNat 0).toNat : Int)) else none := by kernel_rfl
theorem cv22_9n : convD T 22 9 .nil = some (.s []) := by kernel_rfl
theorem cv22_9 (es : List D) (w : Own) : convD T 22 9 (.sl 1 es w) = (toBs es).map fun ns => .s (unB ns) := by kernel_rfl
theorem isu5 : isU8 T 5 = true := by kernel_rfl
theorem cv9_22' (l : List UInt8) : convD T 9 22 (.s l) = (if isU8 T 5 = true ∧ l.length ≤ 4611686018427387904 then some (.sl 1 (l.map byteD) .shut) else none) := by kernel_rfl
theorem cv9_22 (l : List UInt8) (h : l.length ≤ 4611686018427387904) : convD T 9 22 (.s l) = some (.sl 1 (l.map byteD) .shut) := by
  rw [cv9_22', if_pos ⟨isu5, h⟩]
theorem cv3_5 (k : IntKind) (n : Int) : convD T 3 5 (.i k n) = some (.i .u8 (IntKind.u8.wrap n)) := by kernel_rfl
theorem cv5_3 (k : IntKind) (n : Int) : convD T 5 3 (.i k n) = some (.i .i64 (IntKind.i64.wrap n)) := by kernel_rfl
theorem sl9 (l : List UInt8) (lo hi : Option D) (a b : Nat) (ha : getI lo 0 = some a) (hb : getI hi l.length = some b) (h : a ≤ b ∧ b ≤ l.length) : sliceD T 9 (.s l) lo hi = some (.s ((l.take b).drop a)) := by
  have e : T.underlying 9 = some .string := Tryz.underlying9
  unfold sliceD
  rw [e]
  simp only [ha, hb]
  exact if_pos h
theorem sl22 (es : List D) (w : Own) (lo hi : Option D) (a b : Nat) (ha : getI lo 0 = some a) (hb : getI hi es.length = some b) (h : a ≤ b ∧ b ≤ es.length) : sliceD T 22 (.sl 1 es w) lo hi = some (.sl 1 ((es.take b).drop a) .shut) := by
  unfold sliceD
  rw [und22]
  simp only [ha, hb]
  exact if_pos ⟨h.1, h.2, tsz5⟩
theorem i_add (t : Nat) (k : IntKind) (a b : Int) : binD T .add t (.i k a) (.i k b) = some (.i k (k.wrap (a + b))) := by simp [binD]
theorem i_sub (t : Nat) (k : IntKind) (a b : Int) : binD T .sub t (.i k a) (.i k b) = some (.i k (k.wrap (a - b))) := by simp [binD]
theorem i_mul (t : Nat) (k : IntKind) (a b : Int) : binD T .mul t (.i k a) (.i k b) = some (.i k (k.wrap (a * b))) := by simp [binD]
theorem i_eql (t : Nat) (k : IntKind) (a b : Int) : binD T .eql t (.i k a) (.i k b) = some (.b (a == b)) := by simp [binD]
theorem i_neq (t : Nat) (k : IntKind) (a b : Int) : binD T .neq t (.i k a) (.i k b) = some (.b (a != b)) := by simp [binD]
theorem i_lss (t : Nat) (k : IntKind) (a b : Int) : binD T .lss t (.i k a) (.i k b) = some (.b (decide (a < b))) := by simp [binD]
theorem i_leq (t : Nat) (k : IntKind) (a b : Int) : binD T .leq t (.i k a) (.i k b) = some (.b (decide (a ≤ b))) := by simp [binD]
theorem i_gtr (t : Nat) (k : IntKind) (a b : Int) : binD T .gtr t (.i k a) (.i k b) = some (.b (decide (b < a))) := by simp [binD]
theorem i_geq (t : Nat) (k : IntKind) (a b : Int) : binD T .geq t (.i k a) (.i k b) = some (.b (decide (b ≤ a))) := by simp [binD]
theorem i_quo (t : Nat) (k : IntKind) (a b : Int) (h : b ≠ 0) : binD T .quo t (.i k a) (.i k b) = some (.i k (k.wrap (a.tdiv b))) := by simp [binD, h]
theorem i_rem (t : Nat) (k : IntKind) (a b : Int) (h : b ≠ 0) : binD T .rem t (.i k a) (.i k b) = some (.i k (a.tmod b)) := by simp [binD, h]
theorem s_eql (t : Nat) (a b : List UInt8) : binD T .eql t (.s a) (.s b) = some (.b (a == b)) := by simp [binD]
theorem s_neq (t : Nat) (a b : List UInt8) : binD T .neq t (.s a) (.s b) = some (.b (!(a == b))) := by simp [binD]
theorem s_lss (t : Nat) (a b : List UInt8) : binD T .lss t (.s a) (.s b) = some (.b (Op.bytesLess a b)) := by simp [binD]
theorem s_leq (t : Nat) (a b : List UInt8) : binD T .leq t (.s a) (.s b) = some (.b (Op.bytesLess a b || a == b)) := by simp [binD]
theorem s_gtr (t : Nat) (a b : List UInt8) : binD T .gtr t (.s a) (.s b) = some (.b (!(Op.bytesLess a b || a == b))) := by simp [binD]
theorem s_geq (t : Nat) (a b : List UInt8) : binD T .geq t (.s a) (.s b) = some (.b (!Op.bytesLess a b)) := by simp [binD]
theorem s_add (t : Nat) (a b : List UInt8) (h : a.length + b.length ≤ 4611686018427387904) : binD T .add t (.s a) (.s b) = some (.s (a ++ b)) := by simp [binD, h]
theorem b_eql (a b : Bool) : binD T .eql 4 (.b a) (.b b) = some (.b (a == b)) := by kernel_rfl
theorem b_neq (a b : Bool) : binD T .neq 4 (.b a) (.b b) = some (.b (!(a == b))) := by kernel_rfl
def DO (sz : Nat) (es : List D) (o : Own) : D :=
  match es with
  | [] => .nil
  | e :: r => .sl sz (e :: r) o
theorem elems_DO (sz : Nat) (es : List D) (o : Own) : elems sz (DO sz es o) = some es := by cases es <;> simp [DO, elems]
theorem DO_ne {sz : Nat} {es : List D} {o : Own} (h : es ≠ []) : DO sz es o = .sl sz es o := by cases es with
  | nil => exact absurd rfl h
  | cons e r => rfl
theorem DO_app (sz : Nat) (es : List D) (e : D) (r : List D) (o : Own) : DO sz (es ++ e :: r) o = .sl sz (es ++ e :: r) o := DO_ne (by simp)
theorem may_DO {t : Nat} {tp : Nat → Option (Nat × Nat)} {sz g : Nat} {es : List D} (h : es ≠ [] → tp t = some (g, es.length)) : mayApp t tp (DO sz es (.op t g)) = true := by
  cases es with
  | nil => rfl
  | cons e r => simp [DO, mayApp, h]
theorem ap22 {tp : Nat → Option (Nat × Nat)} {c g : Nat} {s x : D} {es es2 : List D} (hs : s = DO 1 es (.op 22 g)) (hg : es ≠ [] → tp 22 = some (g, es.length)) (hx : elems 1 x = some es2) (h2 : es2 ≠ []) (hb : es.length + es2.length ≤ 100000000) :
    appD T 22 tp c s x = some (DO 1 (es ++ es2) (.op 22 c), upd tp 22 (some (c, (es ++ es2).length)), c + 1) := by
  subst hs
  unfold appD
  simp only [und22, tsz5, tby5, zero5, elems_DO, hx]
  rw [if_neg (by simpa using h2), if_pos ⟨by decide, rfl, rfl, by omega, by omega, may_DO hg⟩, DO_ne (by simp [h2]), List.length_append]
theorem ap23 {tp : Nat → Option (Nat × Nat)} {c g : Nat} {s x : D} {es es2 : List D} (hs : s = DO 10 es (.op 23 g)) (hg : es ≠ [] → tp 23 = some (g, es.length)) (hx : elems 10 x = some es2) (h2 : es2 ≠ []) (hb : es.length + es2.length ≤ 100000000) :
    appD T 23 tp c s x = some (DO 10 (es ++ es2) (.op 23 c), upd tp 23 (some (c, (es ++ es2).length)), c + 1) := by
  subst hs
  unfold appD
  simp only [und23, tsz44, tby44, zero44, elems_DO, hx]
  rw [if_neg (by simpa using h2), if_pos ⟨by decide, rfl, rfl, by omega, by omega, may_DO hg⟩, DO_ne (by simp [h2]), List.length_append]
theorem ap41 {tp : Nat → Option (Nat × Nat)} {c g : Nat} {s x : D} {es es2 : List D} (hs : s = DO 1 es (.op 41 g)) (hg : es ≠ [] → tp 41 = some (g, es.length)) (hx : elems 1 x = some es2) (h2 : es2 ≠ []) (hb : es.length + es2.length ≤ 100000000) :
    appD T 41 tp c s x = some (DO 1 (es ++ es2) (.op 41 c), upd tp 41 (some (c, (es ++ es2).length)), c + 1) := by
  subst hs
  unfold appD
  simp only [und41, tsz3, tby3, zero3, elems_DO, hx]
  rw [if_neg (by simpa using h2), if_pos ⟨by decide, rfl, rfl, by omega, by omega, may_DO hg⟩, DO_ne (by simp [h2]), List.length_append]
theorem ap42 {tp : Nat → Option (Nat × Nat)} {c g : Nat} {s x : D} {es es2 : List D} (hs : s = DO 8 es (.op 42 g)) (hg : es ≠ [] → tp 42 = some (g, es.length)) (hx : elems 8 x = some es2) (h2 : es2 ≠ []) (hb : es.length + es2.length ≤ 100000000) :
    appD T 42 tp c s x = some (DO 8 (es ++ es2) (.op 42 c), upd tp 42 (some (c, (es ++ es2).length)), c + 1) := by
  subst hs
  unfold appD
  simp only [und42, tsz60, tby60, zero60, elems_DO, hx]
  rw [if_neg (by simpa using h2), if_pos ⟨by decide, rfl, rfl, by omega, by omega, may_DO hg⟩, DO_ne (by simp [h2]), List.length_append]
theorem ap53 {tp : Nat → Option (Nat × Nat)} {c g : Nat} {s x : D} {es es2 : List D} (hs : s = DO 2 es (.op 53 g)) (hg : es ≠ [] → tp 53 = some (g, es.length)) (hx : elems 2 x = some es2) (h2 : es2 ≠ []) (hb : es.length + es2.length ≤ 100000000) :
    appD T 53 tp c s x = some (DO 2 (es ++ es2) (.op 53 c), upd tp 53 (some (c, (es ++ es2).length)), c + 1) := by
  subst hs
  unfold appD
  simp only [und53, tsz74, tby74, zero74, elems_DO, hx]
  rw [if_neg (by simpa using h2), if_pos ⟨by decide, rfl, rfl, by omega, by omega, may_DO hg⟩, DO_ne (by simp [h2]), List.length_append]
theorem ap58 {tp : Nat → Option (Nat × Nat)} {c g : Nat} {s x : D} {es es2 : List D} (hs : s = DO 1 es (.op 58 g)) (hg : es ≠ [] → tp 58 = some (g, es.length)) (hx : elems 1 x = some es2) (h2 : es2 ≠ []) (hb : es.length + es2.length ≤ 100000000) :
    appD T 58 tp c s x = some (DO 1 (es ++ es2) (.op 58 c), upd tp 58 (some (c, (es ++ es2).length)), c + 1) := by
  subst hs
  unfold appD
  simp only [und58, tsz9, tby9, zero9, elems_DO, hx]
  rw [if_neg (by simpa using h2), if_pos ⟨by decide, rfl, rfl, by omega, by omega, may_DO hg⟩, DO_ne (by simp [h2]), List.length_append]
theorem apx22 {tp : Nat → Option (Nat × Nat)} {c g : Nat} {s x : D} {es es2 : List D} (hs : s = DO 1 es (.op 22 g)) (hg : es ≠ [] → tp 22 = some (g, es.length)) (hx : elems 1 x = some es2) (hb : es.length + es2.length ≤ 100000000) :
    ∃ g' tp' c', appD T 22 tp c s x = some (DO 1 (es ++ es2) (.op 22 g'), tp', c') ∧ (es ++ es2 ≠ [] → tp' 22 = some (g', (es ++ es2).length)) ∧ (∀ k, k ≠ 22 → tp' k = tp k) ∧ c ≤ c' := by
  by_cases h2 : es2 = []
  · subst h2
    refine ⟨g, tp, c, ?_, ?_, fun _ _ => rfl, Nat.le_refl _⟩
    · subst hs
      unfold appD
      simp only [und22, tsz5, tby5, zero5, elems_DO, hx, List.append_nil]
      rfl
    · rw [List.append_nil]; exact hg
  · exact ⟨c, _, c + 1, ap22 hs hg hx h2 hb, fun _ => upd_same _ _ _, fun k hk => upd_other _ _ hk, Nat.le_succ _⟩
theorem apx23 {tp : Nat → Option (Nat × Nat)} {c g : Nat} {s x : D} {es es2 : List D} (hs : s = DO 10 es (.op 23 g)) (hg : es ≠ [] → tp 23 = some (g, es.length)) (hx : elems 10 x = some es2) (hb : es.length + es2.length ≤ 100000000) :
    ∃ g' tp' c', appD T 23 tp c s x = some (DO 10 (es ++ es2) (.op 23 g'), tp', c') ∧ (es ++ es2 ≠ [] → tp' 23 = some (g', (es ++ es2).length)) ∧ (∀ k, k ≠ 23 → tp' k = tp k) ∧ c ≤ c' := by
  by_cases h2 : es2 = []
  · subst h2
    refine ⟨g, tp, c, ?_, ?_, fun _ _ => rfl, Nat.le_refl _⟩
    · subst hs
      unfold appD
      simp only [und23, tsz44, tby44, zero44, elems_DO, hx, List.append_nil]
      rfl
    · rw [List.append_nil]; exact hg
  · exact ⟨c, _, c + 1, ap23 hs hg hx h2 hb, fun _ => upd_same _ _ _, fun k hk => upd_other _ _ hk, Nat.le_succ _⟩
theorem apx41 {tp : Nat → Option (Nat × Nat)} {c g : Nat} {s x : D} {es es2 : List D} (hs : s = DO 1 es (.op 41 g)) (hg : es ≠ [] → tp 41 = some (g, es.length)) (hx : elems 1 x = some es2) (hb : es.length + es2.length ≤ 100000000) :
    ∃ g' tp' c', appD T 41 tp c s x = some (DO 1 (es ++ es2) (.op 41 g'), tp', c') ∧ (es ++ es2 ≠ [] → tp' 41 = some (g', (es ++ es2).length)) ∧ (∀ k, k ≠ 41 → tp' k = tp k) ∧ c ≤ c' := by
  by_cases h2 : es2 = []
  · subst h2
    refine ⟨g, tp, c, ?_, ?_, fun _ _ => rfl, Nat.le_refl _⟩
    · subst hs
      unfold appD
      simp only [und41, tsz3, tby3, zero3, elems_DO, hx, List.append_nil]
      rfl
    · rw [List.append_nil]; exact hg
  · exact ⟨c, _, c + 1, ap41 hs hg hx h2 hb, fun _ => upd_same _ _ _, fun k hk => upd_other _ _ hk, Nat.le_succ _⟩
theorem apx42 {tp : Nat → Option (Nat × Nat)} {c g : Nat} {s x : D} {es es2 : List D} (hs : s = DO 8 es (.op 42 g)) (hg : es ≠ [] → tp 42 = some (g, es.length)) (hx : elems 8 x = some es2) (hb : es.length + es2.length ≤ 100000000) :
    ∃ g' tp' c', appD T 42 tp c s x = some (DO 8 (es ++ es2) (.op 42 g'), tp', c') ∧ (es ++ es2 ≠ [] → tp' 42 = some (g', (es ++ es2).length)) ∧ (∀ k, k ≠ 42 → tp' k = tp k) ∧ c ≤ c' := by
  by_cases h2 : es2 = []
  · subst h2
    refine ⟨g, tp, c, ?_, ?_, fun _ _ => rfl, Nat.le_refl _⟩
    · subst hs
      unfold appD
      simp only [und42, tsz60, tby60, zero60, elems_DO, hx, List.append_nil]
      rfl
    · rw [List.append_nil]; exact hg
  · exact ⟨c, _, c + 1, ap42 hs hg hx h2 hb, fun _ => upd_same _ _ _, fun k hk => upd_other _ _ hk, Nat.le_succ _⟩
theorem apx53 {tp : Nat → Option (Nat × Nat)} {c g : Nat} {s x : D} {es es2 : List D} (hs : s = DO 2 es (.op 53 g)) (hg : es ≠ [] → tp 53 = some (g, es.length)) (hx : elems 2 x = some es2) (hb : es.length + es2.length ≤ 100000000) :
    ∃ g' tp' c', appD T 53 tp c s x = some (DO 2 (es ++ es2) (.op 53 g'), tp', c') ∧ (es ++ es2 ≠ [] → tp' 53 = some (g', (es ++ es2).length)) ∧ (∀ k, k ≠ 53 → tp' k = tp k) ∧ c ≤ c' := by
  by_cases h2 : es2 = []
  · subst h2
    refine ⟨g, tp, c, ?_, ?_, fun _ _ => rfl, Nat.le_refl _⟩
    · subst hs
      unfold appD
      simp only [und53, tsz74, tby74, zero74, elems_DO, hx, List.append_nil]
      rfl
    · rw [List.append_nil]; exact hg
  · exact ⟨c, _, c + 1, ap53 hs hg hx h2 hb, fun _ => upd_same _ _ _, fun k hk => upd_other _ _ hk, Nat.le_succ _⟩
theorem apx58 {tp : Nat → Option (Nat × Nat)} {c g : Nat} {s x : D} {es es2 : List D} (hs : s = DO 1 es (.op 58 g)) (hg : es ≠ [] → tp 58 = some (g, es.length)) (hx : elems 1 x = some es2) (hb : es.length + es2.length ≤ 100000000) :
    ∃ g' tp' c', appD T 58 tp c s x = some (DO 1 (es ++ es2) (.op 58 g'), tp', c') ∧ (es ++ es2 ≠ [] → tp' 58 = some (g', (es ++ es2).length)) ∧ (∀ k, k ≠ 58 → tp' k = tp k) ∧ c ≤ c' := by
  by_cases h2 : es2 = []
  · subst h2
    refine ⟨g, tp, c, ?_, ?_, fun _ _ => rfl, Nat.le_refl _⟩
    · subst hs
      unfold appD
      simp only [und58, tsz9, tby9, zero9, elems_DO, hx, List.append_nil]
      rfl
    · rw [List.append_nil]; exact hg
  · exact ⟨c, _, c + 1, ap58 hs hg hx h2 hb, fun _ => upd_same _ _ _, fun k hk => upd_other _ _ hk, Nat.le_succ _⟩
theorem er_DO (sz : Nat) (es : List D) (o : Own) : er (DO sz es o) = DO sz (es.map er) .shut := by cases es <;> simp [DO, er]
theorem erp_DO (sz : Nat) (es : List D) (o : Own) : erp (DO sz es o) = DO sz (es.map erp) o := by cases es <;> simp [DO, erp]
theorem isAg_DO (sz : Nat) (es : List D) (o : Own) : (DO sz es o).isAg = false := by cases es <;> rfl
theorem solid_DO (sz : Nat) (es : List D) (o : Own) : (DO sz es o).solid = true := by cases es <;> rfl
theorem cells_DO (sz : Nat) (es : List D) (o : Own) : (DO sz es o).cells = [DO sz es o] := by cases es <;> rfl
theorem len_DO22 (es : List D) (o : Own) : lenOk T 22 (DO 1 es o) = some (.i .i64 es.length) := by cases es <;> kernel_rfl
theorem len_DO23 (es : List D) (o : Own) : lenOk T 23 (DO 10 es o) = some (.i .i64 es.length) := by cases es <;> kernel_rfl
theorem len_DO41 (es : List D) (o : Own) : lenOk T 41 (DO 1 es o) = some (.i .i64 es.length) := by cases es <;> kernel_rfl
theorem len_DO42 (es : List D) (o : Own) : lenOk T 42 (DO 8 es o) = some (.i .i64 es.length) := by cases es <;> kernel_rfl
theorem len_DO53 (es : List D) (o : Own) : lenOk T 53 (DO 2 es o) = some (.i .i64 es.length) := by cases es <;> kernel_rfl
theorem len_DO58 (es : List D) (o : Own) : lenOk T 58 (DO 1 es o) = some (.i .i64 es.length) := by cases es <;> kernel_rfl
theorem ix_DO22 (es : List D) (w : Own) (k : IntKind) (n : Nat) (h : n < es.length) : indexD T 22 (DO 1 es w) (.i k n) = some (.rp (es.getD n .u)) := by
  rw [DO_ne (by intro e; rw [e] at h; exact absurd h (Nat.not_lt_zero _)), ix22, if_pos ⟨by omega, by omega, rfl⟩, Int.toNat_natCast]
theorem ix_DO23 (es : List D) (w : Own) (k : IntKind) (n : Nat) (h : n < es.length) : indexD T 23 (DO 10 es w) (.i k n) = some (.rp (es.getD n .u)) := by
  rw [DO_ne (by intro e; rw [e] at h; exact absurd h (Nat.not_lt_zero _)), ix23, if_pos ⟨by omega, by omega, rfl⟩, Int.toNat_natCast]
theorem ix_DO41 (es : List D) (w : Own) (k : IntKind) (n : Nat) (h : n < es.length) : indexD T 41 (DO 1 es w) (.i k n) = some (.rp (es.getD n .u)) := by
  rw [DO_ne (by intro e; rw [e] at h; exact absurd h (Nat.not_lt_zero _)), ix41, if_pos ⟨by omega, by omega, rfl⟩, Int.toNat_natCast]
theorem ix_DO42 (es : List D) (w : Own) (k : IntKind) (n : Nat) (h : n < es.length) : indexD T 42 (DO 8 es w) (.i k n) = some (.rp (es.getD n .u)) := by
  rw [DO_ne (by intro e; rw [e] at h; exact absurd h (Nat.not_lt_zero _)), ix42, if_pos ⟨by omega, by omega, rfl⟩, Int.toNat_natCast]
theorem ix_DO53 (es : List D) (w : Own) (k : IntKind) (n : Nat) (h : n < es.length) : indexD T 53 (DO 2 es w) (.i k n) = some (.rp (es.getD n .u)) := by
  rw [DO_ne (by intro e; rw [e] at h; exact absurd h (Nat.not_lt_zero _)), ix53, if_pos ⟨by omega, by omega, rfl⟩, Int.toNat_natCast]
theorem ix_DO58 (es : List D) (w : Own) (k : IntKind) (n : Nat) (h : n < es.length) : indexD T 58 (DO 1 es w) (.i k n) = some (.rp (es.getD n .u)) := by
  rw [DO_ne (by intro e; rw [e] at h; exact absurd h (Nat.not_lt_zero _)), ix58, if_pos ⟨by omega, by omega, rfl⟩, Int.toNat_natCast]
theorem lit1_22 (x : D) (h : x.solid = true) (h2 : x.cells.length = 1) : litD T 22 1 [(0, x)] = some (.sl 1 [x] .full) := lit22 1 _ ⟨by decide, rfl, by simp [h, h2]⟩
theorem lenm22 {α : Type} (f : α → D) (l : List α) (w : Own) : lenOk T 22 (DO 1 (l.map f) w) = some (.i .i64 l.length) := by rw [len_DO22, List.length_map]
theorem ixm22 {α : Type} (f : α → D) (l : List α) (w : Own) (k : IntKind) (n : Nat) (h : n < l.length) : indexD T 22 (DO 1 (l.map f) w) (.i k n) = some (.rp (f l[n])) := by
  rw [ix_DO22 _ _ _ _ (by rw [List.length_map]; exact h)]
  simp [List.getD, h]
theorem lit1_23 (x : D) (h : x.solid = true) (h2 : x.cells.length = 10) : litD T 23 1 [(0, x)] = some (.sl 10 [x] .full) := lit23 1 _ ⟨by decide, rfl, by simp [h, h2]⟩
theorem lenm23 {α : Type} (f : α → D) (l : List α) (w : Own) : lenOk T 23 (DO 10 (l.map f) w) = some (.i .i64 l.length) := by rw [len_DO23, List.length_map]
theorem ixm23 {α : Type} (f : α → D) (l : List α) (w : Own) (k : IntKind) (n : Nat) (h : n < l.length) : indexD T 23 (DO 10 (l.map f) w) (.i k n) = some (.rp (f l[n])) := by
  rw [ix_DO23 _ _ _ _ (by rw [List.length_map]; exact h)]
  simp [List.getD, h]
theorem lit1_41 (x : D) (h : x.solid = true) (h2 : x.cells.length = 1) : litD T 41 1 [(0, x)] = some (.sl 1 [x] .full) := lit41 1 _ ⟨by decide, rfl, by simp [h, h2]⟩
theorem lenm41 {α : Type} (f : α → D) (l : List α) (w : Own) : lenOk T 41 (DO 1 (l.map f) w) = some (.i .i64 l.length) := by rw [len_DO41, List.length_map]
theorem ixm41 {α : Type} (f : α → D) (l : List α) (w : Own) (k : IntKind) (n : Nat) (h : n < l.length) : indexD T 41 (DO 1 (l.map f) w) (.i k n) = some (.rp (f l[n])) := by
  rw [ix_DO41 _ _ _ _ (by rw [List.length_map]; exact h)]
  simp [List.getD, h]
theorem lit1_42 (x : D) (h : x.solid = true) (h2 : x.cells.length = 8) : litD T 42 1 [(0, x)] = some (.sl 8 [x] .full) := lit42 1 _ ⟨by decide, rfl, by simp [h, h2]⟩
theorem lenm42 {α : Type} (f : α → D) (l : List α) (w : Own) : lenOk T 42 (DO 8 (l.map f) w) = some (.i .i64 l.length) := by rw [len_DO42, List.length_map]
theorem ixm42 {α : Type} (f : α → D) (l : List α) (w : Own) (k : IntKind) (n : Nat) (h : n < l.length) : indexD T 42 (DO 8 (l.map f) w) (.i k n) = some (.rp (f l[n])) := by
  rw [ix_DO42 _ _ _ _ (by rw [List.length_map]; exact h)]
  simp [List.getD, h]
theorem lit1_53 (x : D) (h : x.solid = true) (h2 : x.cells.length = 2) : litD T 53 1 [(0, x)] = some (.sl 2 [x] .full) := lit53 1 _ ⟨by decide, rfl, by simp [h, h2]⟩
theorem lenm53 {α : Type} (f : α → D) (l : List α) (w : Own) : lenOk T 53 (DO 2 (l.map f) w) = some (.i .i64 l.length) := by rw [len_DO53, List.length_map]
theorem ixm53 {α : Type} (f : α → D) (l : List α) (w : Own) (k : IntKind) (n : Nat) (h : n < l.length) : indexD T 53 (DO 2 (l.map f) w) (.i k n) = some (.rp (f l[n])) := by
  rw [ix_DO53 _ _ _ _ (by rw [List.length_map]; exact h)]
  simp [List.getD, h]
theorem lit1_58 (x : D) (h : x.solid = true) (h2 : x.cells.length = 1) : litD T 58 1 [(0, x)] = some (.sl 1 [x] .full) := lit58 1 _ ⟨by decide, rfl, by simp [h, h2]⟩
theorem lenm58 {α : Type} (f : α → D) (l : List α) (w : Own) : lenOk T 58 (DO 1 (l.map f) w) = some (.i .i64 l.length) := by rw [len_DO58, List.length_map]
theorem ixm58 {α : Type} (f : α → D) (l : List α) (w : Own) (k : IntKind) (n : Nat) (h : n < l.length) : indexD T 58 (DO 1 (l.map f) w) (.i k n) = some (.rp (f l[n])) := by
  rw [ix_DO58 _ _ _ _ (by rw [List.length_map]; exact h)]
  simp [List.getD, h]
theorem solid_i (k : IntKind) (n : Int) : (D.i k n).solid = true := rfl
theorem cells_i (k : IntKind) (n : Int) : (D.i k n).cells = [D.i k n] := rfl
theorem isAg_i (k : IntKind) (n : Int) : (D.i k n).isAg = false := rfl
theorem solid_b (x : Bool) : (D.b x).solid = true := rfl
theorem cells_b (x : Bool) : (D.b x).cells = [D.b x] := rfl
theorem isAg_b (x : Bool) : (D.b x).isAg = false := rfl
theorem solid_s (l : List UInt8) : (D.s l).solid = true := rfl
theorem cells_s (l : List UInt8) : (D.s l).cells = [D.s l] := rfl
theorem isAg_s (l : List UInt8) : (D.s l).isAg = false := rfl
theorem solid_sl (sz : Nat) (es : List D) (o : Own) : (D.sl sz es o).solid = true := rfl
theorem cells_sl (sz : Nat) (es : List D) (o : Own) : (D.sl sz es o).cells = [D.sl sz es o] := rfl
theorem isAg_sl (sz : Nat) (es : List D) (o : Own) : (D.sl sz es o).isAg = false := rfl
theorem solid_p (k g o : Nat) : (D.p k g o).solid = true := rfl
theorem cells_p (k g o : Nat) : (D.p k g o).cells = [D.p k g o] := rfl
theorem isAg_p (k g o : Nat) : (D.p k g o).isAg = false := rfl
theorem solid_rp (d : D) : (D.rp d).solid = true := rfl
theorem cells_rp (d : D) : (D.rp d).cells = [D.rp d] := rfl
theorem isAg_rp (d : D) : (D.rp d).isAg = false := rfl
theorem solid_nil : D.nil.solid = true := rfl
theorem cells_nil : D.nil.cells = [D.nil] := rfl
theorem isAg_nil : D.nil.isAg = false := rfl
theorem solid_ag (cs : List D) : (D.ag cs).solid = true := rfl
theorem isAg_ag (cs : List D) : (D.ag cs).isAg = true := rfl
theorem cells_ag' (cs : List D) : (D.ag cs).cells = cs := rfl
theorem solid_byte (b : UInt8) : (byteD b).solid = true := rfl
theorem cells_byte (b : UInt8) : (byteD b).cells = [byteD b] := rfl
theorem isAg_byte (b : UInt8) : (byteD b).isAg = false := rfl
theorem getc_ag (cs : List D) (o n : Nat) : getc (.ag cs) o n true = if o = 0 ∧ cs.length = n then some (.ag cs) else if o + n ≤ cs.length then some (.ag ((cs.drop o).take n)) else none := by
  unfold getc
  rw [if_pos rfl]
  by_cases h : o = 0 ∧ cs.length = n
  · rw [if_pos h, if_pos (show (D.ag cs).isAg = true ∧ o = 0 ∧ (D.ag cs).cells.length = n from ⟨rfl, h.1, h.2⟩)]
  · rw [if_neg h, if_neg (show ¬ ((D.ag cs).isAg = true ∧ o = 0 ∧ (D.ag cs).cells.length = n) from fun e => h ⟨e.2.1, e.2.2⟩)]
    rfl
theorem setc_ag (cs : List D) (o : Nat) (d : D) : setc (.ag cs) o d = if o = 0 ∧ cs.length = d.cells.length then d else .ag (splice cs o d.cells) := rfl
theorem splice_eq (cs ds : List D) (o : Nat) : splice cs o ds = cs.take o ++ (ds ++ cs.drop (o + ds.length)) := rfl
theorem ofV_int (k : IntKind) (n : Int) : ofV (.int k n) = .i k n := rfl
theorem ofV_bool (x : Bool) : ofV (.bool x) = .b x := rfl
theorem ofV_string (s : ByteArray) : ofV (.string s) = .s s.data.toList := rfl
theorem ofV_nil : ofV (.slice none 0 0) = .nil := rfl
theorem cv22_DO (es : List D) (w : Own) : convD T 22 9 (DO 1 es w) = (toBs es).map fun ns => .s (unB ns) := by cases es <;> kernel_rfl
end Go.Proofs.YtobamidecbfgpaaGreatDoor
