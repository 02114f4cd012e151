/- Lists by name: owned (o*) and closed (d*), for the six slice types of the law. No condition. -/
import Derived.Test.YtobamidecbfgpaaGreatDoorKy
namespace Go.Proofs.YtobamidecbfgpaaGreatDoor
open Go Go.Sh Go.RowKit
set_option linter.unusedVariables false
set_option linter.defProp false
def dTexts (l : List Str) : D := DO 1 (l.map D.s) .shut
theorem er_text : er ∘ D.s = D.s := by funext b; simp [er]
theorem erp_int : erp ∘ iN = iN := by funext b; simp [iN, erp]
theorem erp_text : erp ∘ D.s = D.s := by funext b; simp [erp]
theorem erp_dBytes (l : Str) : erp (dBytes l) = dBytes l := by simp [dBytes, erp_DO, erp_byte]
theorem erp_dInts (l : List Nat) : erp (dInts l) = dInts l := by simp [dInts, erp_DO, erp_int]
theorem erp_dMsg (m : Msg) : erp (dMsg m) = dMsg m := by simp [dMsg, erp]
theorem erp_msg : erp ∘ dMsg = dMsg := by funext m; exact erp_dMsg m
theorem erp_dMsgs (l : List Msg) : erp (dMsgs l) = dMsgs l := by simp [dMsgs, erp_DO, erp_msg]
theorem erp_dSub (x : Sub) : erp (dSub x) = dSub x := by simp [dSub, erp, erp_dInts, erp_dMsgs]
theorem erp_sub : erp ∘ dSub = dSub := by funext m; exact erp_dSub m
theorem erp_dRow (r : Row) : erp (dRow r) = dRow r := by simp [dRow, erp, erp_dBytes]
theorem erp_row : erp ∘ dRow = dRow := by funext m; exact erp_dRow m
def oB (g : Nat) (l : List UInt8) : D := DO 1 (l.map byteD) (.op 22 g)
theorem er_oB (g : Nat) (l : List UInt8) : er (oB g l) = dBytes l := by simp [oB, dBytes, er_DO, er_byte]
theorem erd_B (l : List UInt8) : er (dBytes l) = dBytes l := by simp [dBytes, er_DO, er_byte]
theorem erp_oB (g : Nat) (l : List UInt8) : erp (oB g l) = oB g l := by simp [oB, erp_DO, erp_byte]
theorem len_oB (g : Nat) (l : List UInt8) : lenOk T 22 (oB g l) = some (.i .i64 l.length) := lenm22 _ _ _
theorem len_dB (l : List UInt8) : lenOk T 22 (dBytes l) = some (.i .i64 l.length) := lenm22 _ _ _
theorem ix_oB (g : Nat) (l : List UInt8) (k : IntKind) (n : Nat) (h : n < l.length) : indexD T 22 (oB g l) (.i k n) = some (.rp (byteD l[n])) := ixm22 _ _ _ _ _ h
theorem ix_dB (l : List UInt8) (k : IntKind) (n : Nat) (h : n < l.length) : indexD T 22 (dBytes l) (.i k n) = some (.rp (byteD l[n])) := ixm22 _ _ _ _ _ h
theorem solid_oB (g : Nat) (l : List UInt8) : (oB g l).solid = true := solid_DO _ _ _
theorem cells_oB (g : Nat) (l : List UInt8) : (oB g l).cells = [oB g l] := cells_DO _ _ _
theorem isAg_oB (g : Nat) (l : List UInt8) : (oB g l).isAg = false := isAg_DO _ _ _
theorem solid_dB (l : List UInt8) : (dBytes l).solid = true := solid_DO _ _ _
theorem cells_dB (l : List UInt8) : (dBytes l).cells = [dBytes l] := cells_DO _ _ _
theorem isAg_dB (l : List UInt8) : (dBytes l).isAg = false := isAg_DO _ _ _
theorem app_B (l : List UInt8) (x : UInt8) (g : Nat) {tp : Nat → Option (Nat × Nat)} {c : Nat} {w : Own} (hg : l ≠ [] → tp 22 = some (g, l.length)) (hb : l.length ≤ 100000) :
    appD T 22 tp c (oB g l) (.sl 1 [byteD x] w) = some (oB c (l ++ [x]), upd tp 22 (some (c, l.length + 1)), c + 1) := by
  have h := ap22 (c := c) (s := oB g l) (x := .sl 1 [byteD x] w) (g := g) (es := l.map byteD) (es2 := [byteD x]) rfl (by simpa using hg) (by simp [elems]) (by simp) (by simp; omega)
  rw [h]
  simp [oB]
theorem app2_B (l l2 : List UInt8) (g : Nat) {tp : Nat → Option (Nat × Nat)} {c : Nat} (hg : l ≠ [] → tp 22 = some (g, l.length)) (hb : l.length + l2.length ≤ 100000) :
    ∃ g' tp' c', appD T 22 tp c (oB g l) (dBytes l2) = some (oB g' (l ++ l2), tp', c') ∧ (l ++ l2 ≠ [] → tp' 22 = some (g', (l ++ l2).length)) ∧ (∀ k, k ≠ 22 → tp' k = tp k) ∧ c ≤ c' := by
  obtain ⟨g', tp', c', h1, h2, h3, h4⟩ := apx22 (c := c) (s := oB g l) (x := dBytes l2) (g := g) (es := l.map byteD) (es2 := l2.map byteD) rfl (by simpa using hg) (elems_DO _ _ _) (by simp; omega)
  exact ⟨g', tp', c', by rw [h1]; simp [oB], by simpa using h2, h3, h4⟩
def oI (g : Nat) (l : List Nat) : D := DO 1 (l.map iN) (.op 41 g)
theorem er_oI (g : Nat) (l : List Nat) : er (oI g l) = dInts l := by simp [oI, dInts, er_DO, er_int]
theorem erd_I (l : List Nat) : er (dInts l) = dInts l := by simp [dInts, er_DO, er_int]
theorem erp_oI (g : Nat) (l : List Nat) : erp (oI g l) = oI g l := by simp [oI, erp_DO, erp_int]
theorem len_oI (g : Nat) (l : List Nat) : lenOk T 41 (oI g l) = some (.i .i64 l.length) := lenm41 _ _ _
theorem len_dI (l : List Nat) : lenOk T 41 (dInts l) = some (.i .i64 l.length) := lenm41 _ _ _
theorem ix_oI (g : Nat) (l : List Nat) (k : IntKind) (n : Nat) (h : n < l.length) : indexD T 41 (oI g l) (.i k n) = some (.rp (iN l[n])) := ixm41 _ _ _ _ _ h
theorem ix_dI (l : List Nat) (k : IntKind) (n : Nat) (h : n < l.length) : indexD T 41 (dInts l) (.i k n) = some (.rp (iN l[n])) := ixm41 _ _ _ _ _ h
theorem solid_oI (g : Nat) (l : List Nat) : (oI g l).solid = true := solid_DO _ _ _
theorem cells_oI (g : Nat) (l : List Nat) : (oI g l).cells = [oI g l] := cells_DO _ _ _
theorem isAg_oI (g : Nat) (l : List Nat) : (oI g l).isAg = false := isAg_DO _ _ _
theorem solid_dI (l : List Nat) : (dInts l).solid = true := solid_DO _ _ _
theorem cells_dI (l : List Nat) : (dInts l).cells = [dInts l] := cells_DO _ _ _
theorem isAg_dI (l : List Nat) : (dInts l).isAg = false := isAg_DO _ _ _
theorem app_I (l : List Nat) (x : Nat) (g : Nat) {tp : Nat → Option (Nat × Nat)} {c : Nat} {w : Own} (hg : l ≠ [] → tp 41 = some (g, l.length)) (hb : l.length ≤ 100000) :
    appD T 41 tp c (oI g l) (.sl 1 [iN x] w) = some (oI c (l ++ [x]), upd tp 41 (some (c, l.length + 1)), c + 1) := by
  have h := ap41 (c := c) (s := oI g l) (x := .sl 1 [iN x] w) (g := g) (es := l.map iN) (es2 := [iN x]) rfl (by simpa using hg) (by simp [elems]) (by simp) (by simp; omega)
  rw [h]
  simp [oI]
theorem app2_I (l l2 : List Nat) (g : Nat) {tp : Nat → Option (Nat × Nat)} {c : Nat} (hg : l ≠ [] → tp 41 = some (g, l.length)) (hb : l.length + l2.length ≤ 100000) :
    ∃ g' tp' c', appD T 41 tp c (oI g l) (dInts l2) = some (oI g' (l ++ l2), tp', c') ∧ (l ++ l2 ≠ [] → tp' 41 = some (g', (l ++ l2).length)) ∧ (∀ k, k ≠ 41 → tp' k = tp k) ∧ c ≤ c' := by
  obtain ⟨g', tp', c', h1, h2, h3, h4⟩ := apx41 (c := c) (s := oI g l) (x := dInts l2) (g := g) (es := l.map iN) (es2 := l2.map iN) rfl (by simpa using hg) (elems_DO _ _ _) (by simp; omega)
  exact ⟨g', tp', c', by rw [h1]; simp [oI], by simpa using h2, h3, h4⟩
def oM (g : Nat) (l : List Msg) : D := DO 8 (l.map dMsg) (.op 42 g)
theorem er_oM (g : Nat) (l : List Msg) : er (oM g l) = dMsgs l := by simp [oM, dMsgs, er_DO, er_msg]
theorem erd_M (l : List Msg) : er (dMsgs l) = dMsgs l := by simp [dMsgs, er_DO, er_msg]
theorem erp_oM (g : Nat) (l : List Msg) : erp (oM g l) = oM g l := by simp [oM, erp_DO, erp_msg]
theorem len_oM (g : Nat) (l : List Msg) : lenOk T 42 (oM g l) = some (.i .i64 l.length) := lenm42 _ _ _
theorem len_dM (l : List Msg) : lenOk T 42 (dMsgs l) = some (.i .i64 l.length) := lenm42 _ _ _
theorem ix_oM (g : Nat) (l : List Msg) (k : IntKind) (n : Nat) (h : n < l.length) : indexD T 42 (oM g l) (.i k n) = some (.rp (dMsg l[n])) := ixm42 _ _ _ _ _ h
theorem ix_dM (l : List Msg) (k : IntKind) (n : Nat) (h : n < l.length) : indexD T 42 (dMsgs l) (.i k n) = some (.rp (dMsg l[n])) := ixm42 _ _ _ _ _ h
theorem solid_oM (g : Nat) (l : List Msg) : (oM g l).solid = true := solid_DO _ _ _
theorem cells_oM (g : Nat) (l : List Msg) : (oM g l).cells = [oM g l] := cells_DO _ _ _
theorem isAg_oM (g : Nat) (l : List Msg) : (oM g l).isAg = false := isAg_DO _ _ _
theorem solid_dM (l : List Msg) : (dMsgs l).solid = true := solid_DO _ _ _
theorem cells_dM (l : List Msg) : (dMsgs l).cells = [dMsgs l] := cells_DO _ _ _
theorem isAg_dM (l : List Msg) : (dMsgs l).isAg = false := isAg_DO _ _ _
theorem app_M (l : List Msg) (x : Msg) (g : Nat) {tp : Nat → Option (Nat × Nat)} {c : Nat} {w : Own} (hg : l ≠ [] → tp 42 = some (g, l.length)) (hb : l.length ≤ 100000) :
    appD T 42 tp c (oM g l) (.sl 8 [dMsg x] w) = some (oM c (l ++ [x]), upd tp 42 (some (c, l.length + 1)), c + 1) := by
  have h := ap42 (c := c) (s := oM g l) (x := .sl 8 [dMsg x] w) (g := g) (es := l.map dMsg) (es2 := [dMsg x]) rfl (by simpa using hg) (by simp [elems]) (by simp) (by simp; omega)
  rw [h]
  simp [oM]
theorem app2_M (l l2 : List Msg) (g : Nat) {tp : Nat → Option (Nat × Nat)} {c : Nat} (hg : l ≠ [] → tp 42 = some (g, l.length)) (hb : l.length + l2.length ≤ 100000) :
    ∃ g' tp' c', appD T 42 tp c (oM g l) (dMsgs l2) = some (oM g' (l ++ l2), tp', c') ∧ (l ++ l2 ≠ [] → tp' 42 = some (g', (l ++ l2).length)) ∧ (∀ k, k ≠ 42 → tp' k = tp k) ∧ c ≤ c' := by
  obtain ⟨g', tp', c', h1, h2, h3, h4⟩ := apx42 (c := c) (s := oM g l) (x := dMsgs l2) (g := g) (es := l.map dMsg) (es2 := l2.map dMsg) rfl (by simpa using hg) (elems_DO _ _ _) (by simp; omega)
  exact ⟨g', tp', c', by rw [h1]; simp [oM], by simpa using h2, h3, h4⟩
def oR (g : Nat) (l : List Row) : D := DO 2 (l.map dRow) (.op 53 g)
theorem er_oR (g : Nat) (l : List Row) : er (oR g l) = dRows l := by simp [oR, dRows, er_DO, er_row]
theorem erd_R (l : List Row) : er (dRows l) = dRows l := by simp [dRows, er_DO, er_row]
theorem erp_oR (g : Nat) (l : List Row) : erp (oR g l) = oR g l := by simp [oR, erp_DO, erp_row]
theorem len_oR (g : Nat) (l : List Row) : lenOk T 53 (oR g l) = some (.i .i64 l.length) := lenm53 _ _ _
theorem len_dR (l : List Row) : lenOk T 53 (dRows l) = some (.i .i64 l.length) := lenm53 _ _ _
theorem ix_oR (g : Nat) (l : List Row) (k : IntKind) (n : Nat) (h : n < l.length) : indexD T 53 (oR g l) (.i k n) = some (.rp (dRow l[n])) := ixm53 _ _ _ _ _ h
theorem ix_dR (l : List Row) (k : IntKind) (n : Nat) (h : n < l.length) : indexD T 53 (dRows l) (.i k n) = some (.rp (dRow l[n])) := ixm53 _ _ _ _ _ h
theorem solid_oR (g : Nat) (l : List Row) : (oR g l).solid = true := solid_DO _ _ _
theorem cells_oR (g : Nat) (l : List Row) : (oR g l).cells = [oR g l] := cells_DO _ _ _
theorem isAg_oR (g : Nat) (l : List Row) : (oR g l).isAg = false := isAg_DO _ _ _
theorem solid_dR (l : List Row) : (dRows l).solid = true := solid_DO _ _ _
theorem cells_dR (l : List Row) : (dRows l).cells = [dRows l] := cells_DO _ _ _
theorem isAg_dR (l : List Row) : (dRows l).isAg = false := isAg_DO _ _ _
theorem app_R (l : List Row) (x : Row) (g : Nat) {tp : Nat → Option (Nat × Nat)} {c : Nat} {w : Own} (hg : l ≠ [] → tp 53 = some (g, l.length)) (hb : l.length ≤ 100000) :
    appD T 53 tp c (oR g l) (.sl 2 [dRow x] w) = some (oR c (l ++ [x]), upd tp 53 (some (c, l.length + 1)), c + 1) := by
  have h := ap53 (c := c) (s := oR g l) (x := .sl 2 [dRow x] w) (g := g) (es := l.map dRow) (es2 := [dRow x]) rfl (by simpa using hg) (by simp [elems]) (by simp) (by simp; omega)
  rw [h]
  simp [oR]
theorem app2_R (l l2 : List Row) (g : Nat) {tp : Nat → Option (Nat × Nat)} {c : Nat} (hg : l ≠ [] → tp 53 = some (g, l.length)) (hb : l.length + l2.length ≤ 100000) :
    ∃ g' tp' c', appD T 53 tp c (oR g l) (dRows l2) = some (oR g' (l ++ l2), tp', c') ∧ (l ++ l2 ≠ [] → tp' 53 = some (g', (l ++ l2).length)) ∧ (∀ k, k ≠ 53 → tp' k = tp k) ∧ c ≤ c' := by
  obtain ⟨g', tp', c', h1, h2, h3, h4⟩ := apx53 (c := c) (s := oR g l) (x := dRows l2) (g := g) (es := l.map dRow) (es2 := l2.map dRow) rfl (by simpa using hg) (elems_DO _ _ _) (by simp; omega)
  exact ⟨g', tp', c', by rw [h1]; simp [oR], by simpa using h2, h3, h4⟩
def oS (g : Nat) (l : List Sub) : D := DO 10 (l.map dSub) (.op 23 g)
theorem er_oS (g : Nat) (l : List Sub) : er (oS g l) = dSubs l := by simp [oS, dSubs, er_DO, er_sub]
theorem erd_S (l : List Sub) : er (dSubs l) = dSubs l := by simp [dSubs, er_DO, er_sub]
theorem erp_oS (g : Nat) (l : List Sub) : erp (oS g l) = oS g l := by simp [oS, erp_DO, erp_sub]
theorem len_oS (g : Nat) (l : List Sub) : lenOk T 23 (oS g l) = some (.i .i64 l.length) := lenm23 _ _ _
theorem len_dS (l : List Sub) : lenOk T 23 (dSubs l) = some (.i .i64 l.length) := lenm23 _ _ _
theorem ix_oS (g : Nat) (l : List Sub) (k : IntKind) (n : Nat) (h : n < l.length) : indexD T 23 (oS g l) (.i k n) = some (.rp (dSub l[n])) := ixm23 _ _ _ _ _ h
theorem ix_dS (l : List Sub) (k : IntKind) (n : Nat) (h : n < l.length) : indexD T 23 (dSubs l) (.i k n) = some (.rp (dSub l[n])) := ixm23 _ _ _ _ _ h
theorem solid_oS (g : Nat) (l : List Sub) : (oS g l).solid = true := solid_DO _ _ _
theorem cells_oS (g : Nat) (l : List Sub) : (oS g l).cells = [oS g l] := cells_DO _ _ _
theorem isAg_oS (g : Nat) (l : List Sub) : (oS g l).isAg = false := isAg_DO _ _ _
theorem solid_dS (l : List Sub) : (dSubs l).solid = true := solid_DO _ _ _
theorem cells_dS (l : List Sub) : (dSubs l).cells = [dSubs l] := cells_DO _ _ _
theorem isAg_dS (l : List Sub) : (dSubs l).isAg = false := isAg_DO _ _ _
theorem app_S (l : List Sub) (x : Sub) (g : Nat) {tp : Nat → Option (Nat × Nat)} {c : Nat} {w : Own} (hg : l ≠ [] → tp 23 = some (g, l.length)) (hb : l.length ≤ 100000) :
    appD T 23 tp c (oS g l) (.sl 10 [dSub x] w) = some (oS c (l ++ [x]), upd tp 23 (some (c, l.length + 1)), c + 1) := by
  have h := ap23 (c := c) (s := oS g l) (x := .sl 10 [dSub x] w) (g := g) (es := l.map dSub) (es2 := [dSub x]) rfl (by simpa using hg) (by simp [elems]) (by simp) (by simp; omega)
  rw [h]
  simp [oS]
theorem app2_S (l l2 : List Sub) (g : Nat) {tp : Nat → Option (Nat × Nat)} {c : Nat} (hg : l ≠ [] → tp 23 = some (g, l.length)) (hb : l.length + l2.length ≤ 100000) :
    ∃ g' tp' c', appD T 23 tp c (oS g l) (dSubs l2) = some (oS g' (l ++ l2), tp', c') ∧ (l ++ l2 ≠ [] → tp' 23 = some (g', (l ++ l2).length)) ∧ (∀ k, k ≠ 23 → tp' k = tp k) ∧ c ≤ c' := by
  obtain ⟨g', tp', c', h1, h2, h3, h4⟩ := apx23 (c := c) (s := oS g l) (x := dSubs l2) (g := g) (es := l.map dSub) (es2 := l2.map dSub) rfl (by simpa using hg) (elems_DO _ _ _) (by simp; omega)
  exact ⟨g', tp', c', by rw [h1]; simp [oS], by simpa using h2, h3, h4⟩
def oT (g : Nat) (l : List Str) : D := DO 1 (l.map D.s) (.op 58 g)
theorem er_oT (g : Nat) (l : List Str) : er (oT g l) = dTexts l := by simp [oT, dTexts, er_DO, er_text]
theorem erd_T (l : List Str) : er (dTexts l) = dTexts l := by simp [dTexts, er_DO, er_text]
theorem erp_oT (g : Nat) (l : List Str) : erp (oT g l) = oT g l := by simp [oT, erp_DO, erp_text]
theorem len_oT (g : Nat) (l : List Str) : lenOk T 58 (oT g l) = some (.i .i64 l.length) := lenm58 _ _ _
theorem len_dT (l : List Str) : lenOk T 58 (dTexts l) = some (.i .i64 l.length) := lenm58 _ _ _
theorem ix_oT (g : Nat) (l : List Str) (k : IntKind) (n : Nat) (h : n < l.length) : indexD T 58 (oT g l) (.i k n) = some (.rp (D.s l[n])) := ixm58 _ _ _ _ _ h
theorem ix_dT (l : List Str) (k : IntKind) (n : Nat) (h : n < l.length) : indexD T 58 (dTexts l) (.i k n) = some (.rp (D.s l[n])) := ixm58 _ _ _ _ _ h
theorem solid_oT (g : Nat) (l : List Str) : (oT g l).solid = true := solid_DO _ _ _
theorem cells_oT (g : Nat) (l : List Str) : (oT g l).cells = [oT g l] := cells_DO _ _ _
theorem isAg_oT (g : Nat) (l : List Str) : (oT g l).isAg = false := isAg_DO _ _ _
theorem solid_dT (l : List Str) : (dTexts l).solid = true := solid_DO _ _ _
theorem cells_dT (l : List Str) : (dTexts l).cells = [dTexts l] := cells_DO _ _ _
theorem isAg_dT (l : List Str) : (dTexts l).isAg = false := isAg_DO _ _ _
theorem app_T (l : List Str) (x : Str) (g : Nat) {tp : Nat → Option (Nat × Nat)} {c : Nat} {w : Own} (hg : l ≠ [] → tp 58 = some (g, l.length)) (hb : l.length ≤ 100000) :
    appD T 58 tp c (oT g l) (.sl 1 [D.s x] w) = some (oT c (l ++ [x]), upd tp 58 (some (c, l.length + 1)), c + 1) := by
  have h := ap58 (c := c) (s := oT g l) (x := .sl 1 [D.s x] w) (g := g) (es := l.map D.s) (es2 := [D.s x]) rfl (by simpa using hg) (by simp [elems]) (by simp) (by simp; omega)
  rw [h]
  simp [oT]
theorem app2_T (l l2 : List Str) (g : Nat) {tp : Nat → Option (Nat × Nat)} {c : Nat} (hg : l ≠ [] → tp 58 = some (g, l.length)) (hb : l.length + l2.length ≤ 100000) :
    ∃ g' tp' c', appD T 58 tp c (oT g l) (dTexts l2) = some (oT g' (l ++ l2), tp', c') ∧ (l ++ l2 ≠ [] → tp' 58 = some (g', (l ++ l2).length)) ∧ (∀ k, k ≠ 58 → tp' k = tp k) ∧ c ≤ c' := by
  obtain ⟨g', tp', c', h1, h2, h3, h4⟩ := apx58 (c := c) (s := oT g l) (x := dTexts l2) (g := g) (es := l.map D.s) (es2 := l2.map D.s) rfl (by simpa using hg) (elems_DO _ _ _) (by simp; omega)
  exact ⟨g', tp', c', by rw [h1]; simp [oT], by simpa using h2, h3, h4⟩
theorem solid_row (r : Row) : (dRow r).solid = true := rfl
theorem clen_row (r : Row) : (dRow r).cells.length = 2 := rfl
theorem solid_msg (r : Msg) : (dMsg r).solid = true := rfl
theorem clen_msg (r : Msg) : (dMsg r).cells.length = 8 := rfl
theorem solid_sub (r : Sub) : (dSub r).solid = true := rfl
theorem clen_sub (r : Sub) : (dSub r).cells.length = 10 := rfl
theorem solid_iN (r : Nat) : (iN r).solid = true := rfl
theorem cells_iN (r : Nat) : (iN r).cells = [iN r] := rfl
theorem onum34 {W : World} {l : Str} {n : Nat} {g : Nat} {tp : Nat → Option (Nat × Nat)} {c : Nat} (hg : l ≠ [] → tp 22 = some (g, l.length)) (hn : n ≤ 9007199254740992) (hl : l.length ≤ 100000) :
    Ft T W 34 [oB g l, .i .i64 n] tp c (oB c (l ++ numB n)) (upd tp 22 (some (c, (l ++ numB n).length))) (c + 1) := num34 l n g tp c hg hn hl
theorem nnum34 {W : World} {n : Nat} {tp : Nat → Option (Nat × Nat)} {c : Nat} (hn : n ≤ 9007199254740992) :
    Ft T W 34 [.nil, .i .i64 n] tp c (oB c (numB n)) (upd tp 22 (some (c, (numB n).length))) (c + 1) := num34 [] n 0 tp c (by simp) hn (by simp)
theorem onum81 {W : World} {l : Str} {n : Nat} {g : Nat} {tp : Nat → Option (Nat × Nat)} {c : Nat} (hg : l ≠ [] → tp 22 = some (g, l.length)) (hn : n ≤ 9007199254740992) (hl : l.length ≤ 100000) :
    Ft T W 81 [oB g l, .i .i64 n] tp c (oB c (l ++ numB n)) (upd tp 22 (some (c, (l ++ numB n).length))) (c + 1) := num81 l n g tp c hg hn hl
theorem nnum81 {W : World} {n : Nat} {tp : Nat → Option (Nat × Nat)} {c : Nat} (hn : n ≤ 9007199254740992) :
    Ft T W 81 [.nil, .i .i64 n] tp c (oB c (numB n)) (upd tp 22 (some (c, (numB n).length))) (c + 1) := num81 [] n 0 tp c (by simp) hn (by simp)
theorem onum87 {W : World} {l : Str} {n : Nat} {g : Nat} {tp : Nat → Option (Nat × Nat)} {c : Nat} (hg : l ≠ [] → tp 22 = some (g, l.length)) (hn : n ≤ 9007199254740992) (hl : l.length ≤ 100000) :
    Ft T W 87 [oB g l, .i .i64 n] tp c (oB c (l ++ numB n)) (upd tp 22 (some (c, (l ++ numB n).length))) (c + 1) := num87 l n g tp c hg hn hl
theorem nnum87 {W : World} {n : Nat} {tp : Nat → Option (Nat × Nat)} {c : Nat} (hn : n ≤ 9007199254740992) :
    Ft T W 87 [.nil, .i .i64 n] tp c (oB c (numB n)) (upd tp 22 (some (c, (numB n).length))) (c + 1) := num87 [] n 0 tp c (by simp) hn (by simp)
theorem onum92 {W : World} {l : Str} {n : Nat} {g : Nat} {tp : Nat → Option (Nat × Nat)} {c : Nat} (hg : l ≠ [] → tp 22 = some (g, l.length)) (hn : n ≤ 9007199254740992) (hl : l.length ≤ 100000) :
    Ft T W 92 [oB g l, .i .i64 n] tp c (oB c (l ++ numB n)) (upd tp 22 (some (c, (l ++ numB n).length))) (c + 1) := num92 l n g tp c hg hn hl
theorem nnum92 {W : World} {n : Nat} {tp : Nat → Option (Nat × Nat)} {c : Nat} (hn : n ≤ 9007199254740992) :
    Ft T W 92 [.nil, .i .i64 n] tp c (oB c (numB n)) (upd tp 22 (some (c, (numB n).length))) (c + 1) := num92 [] n 0 tp c (by simp) hn (by simp)
theorem otext80 {W : World} {l : Str} {s : Str} {g : Nat} {tp : Nat → Option (Nat × Nat)} {c : Nat} (hg : l ≠ [] → tp 22 = some (g, l.length)) (hn : s.length ≤ 1000) (hl : l.length ≤ 100000) :
    Ft T W 80 [oB g l, .s s] tp c (oB c (l ++ textB s)) (upd tp 22 (some (c, (l ++ textB s).length))) (c + 1) := text80 l s g tp c hg hn hl
theorem ntext80 {W : World} {s : Str} {tp : Nat → Option (Nat × Nat)} {c : Nat} (hn : s.length ≤ 1000) :
    Ft T W 80 [.nil, .s s] tp c (oB c (textB s)) (upd tp 22 (some (c, (textB s).length))) (c + 1) := text80 [] s 0 tp c (by simp) hn (by simp)
theorem otext86 {W : World} {l : Str} {s : Str} {g : Nat} {tp : Nat → Option (Nat × Nat)} {c : Nat} (hg : l ≠ [] → tp 22 = some (g, l.length)) (hn : s.length ≤ 1000) (hl : l.length ≤ 100000) :
    Ft T W 86 [oB g l, .s s] tp c (oB c (l ++ textB s)) (upd tp 22 (some (c, (l ++ textB s).length))) (c + 1) := text86 l s g tp c hg hn hl
theorem ntext86 {W : World} {s : Str} {tp : Nat → Option (Nat × Nat)} {c : Nat} (hn : s.length ≤ 1000) :
    Ft T W 86 [.nil, .s s] tp c (oB c (textB s)) (upd tp 22 (some (c, (textB s).length))) (c + 1) := text86 [] s 0 tp c (by simp) hn (by simp)
theorem otext93 {W : World} {l : Str} {s : Str} {g : Nat} {tp : Nat → Option (Nat × Nat)} {c : Nat} (hg : l ≠ [] → tp 22 = some (g, l.length)) (hn : s.length ≤ 1000) (hl : l.length ≤ 100000) :
    Ft T W 93 [oB g l, .s s] tp c (oB c (l ++ textB s)) (upd tp 22 (some (c, (l ++ textB s).length))) (c + 1) := text93 l s g tp c hg hn hl
theorem ntext93 {W : World} {s : Str} {tp : Nat → Option (Nat × Nat)} {c : Nat} (hn : s.length ≤ 1000) :
    Ft T W 93 [.nil, .s s] tp c (oB c (textB s)) (upd tp 22 (some (c, (textB s).length))) (c + 1) := text93 [] s 0 tp c (by simp) hn (by simp)
def ok := And.intro @erp_dBytes <| And.intro @erp_dInts <| And.intro @erp_dMsg <| And.intro @erp_dMsgs <| And.intro @erp_dSub <| And.intro @erp_dRow <| And.intro @iN_eq <| And.intro @er_oB <| And.intro @erd_B <| And.intro @erp_oB <| And.intro @len_oB <| And.intro @len_dB <| And.intro @ix_oB <| And.intro @ix_dB <| And.intro @solid_oB <| And.intro @cells_oB <| And.intro @isAg_oB <| And.intro @solid_dB <| And.intro @cells_dB <| And.intro @isAg_dB <| And.intro @er_oI <| And.intro @erd_I <| And.intro @erp_oI <| And.intro @len_oI <| And.intro @len_dI <| And.intro @ix_oI <| And.intro @ix_dI <| And.intro @solid_oI <| And.intro @cells_oI <| And.intro @isAg_oI <| And.intro @solid_dI <| And.intro @cells_dI <| And.intro @isAg_dI <| And.intro @er_oM <| And.intro @erd_M <| And.intro @erp_oM <| And.intro @len_oM <| And.intro @len_dM <| And.intro @ix_oM <| And.intro @ix_dM <| And.intro @solid_oM <| And.intro @cells_oM <| And.intro @isAg_oM <| And.intro @solid_dM <| And.intro @cells_dM <| And.intro @isAg_dM <| And.intro @er_oR <| And.intro @erd_R <| And.intro @erp_oR <| And.intro @len_oR <| And.intro @len_dR <| And.intro @ix_oR <| And.intro @ix_dR <| And.intro @solid_oR <| And.intro @cells_oR <| And.intro @isAg_oR <| And.intro @solid_dR <| And.intro @cells_dR <| And.intro @isAg_dR <| And.intro @er_oS <| And.intro @erd_S <| And.intro @erp_oS <| And.intro @len_oS <| And.intro @len_dS <| And.intro @ix_oS <| And.intro @ix_dS <| And.intro @solid_oS <| And.intro @cells_oS <| And.intro @isAg_oS <| And.intro @solid_dS <| And.intro @cells_dS <| And.intro @isAg_dS <| And.intro @er_oT <| And.intro @erd_T <| And.intro @erp_oT <| And.intro @len_oT <| And.intro @len_dT <| And.intro @ix_oT <| And.intro @ix_dT <| And.intro @solid_oT <| And.intro @cells_oT <| And.intro @isAg_oT <| And.intro @solid_dT <| And.intro @cells_dT <| And.intro @isAg_dT <| And.intro @solid_row <| And.intro @clen_row <| And.intro @solid_msg <| And.intro @clen_msg <| And.intro @solid_sub <| @clen_sub
end Go.Proofs.YtobamidecbfgpaaGreatDoor
