/- sorted: the contract, over the shadow. No condition. -/
import Derived.Test.YtobamidecbfgpaaGreatDoorJa
import Derived.Test.YtobamidecbfgpaaGreatDoorShD
import Derived.Test.YtobamidecbfgpaaGreatDoorOr
/- Rows in the order of their keys, over the shadow. No condition. -/
namespace Go.Proofs.YtobamidecbfgpaaGreatDoor
open Go Go.Sh Go.RowKit
set_option linter.unusedVariables false
set_option linter.unusedSimpArgs false
set_option maxRecDepth 10000
variable {W : World}
abbrev CP := Str × Value
def cR (p : CP) : D := .ag [.s p.1, .v p.2]
def oC (k g : Nat) (l : List CP) : D := DO 2 (l.map cR) (.op k g)
def dC (l : List CP) : D := DO 2 (l.map cR) .shut
theorem len_dC (l : List CP) : lenOk T 53 (dC l) = some (.i .i64 l.length) := lenm53 _ _ _
theorem ix_dC (l : List CP) (k : IntKind) (n : Nat) (h : n < l.length) : indexD T 53 (dC l) (.i k n) = some (.rp (cR l[n])) := ixm53 _ _ _ _ _ h
theorem erp_cR : erp ∘ cR = cR := by funext p; simp [cR, erp]
theorem erp_oC (k g : Nat) (l : List CP) : erp (oC k g l) = oC k g l := by simp [oC, erp_DO, erp_cR]
theorem len_oC (k g : Nat) (l : List CP) : lenOk T 53 (oC k g l) = some (.i .i64 l.length) := lenm53 _ _ _
theorem ix_oC (q g : Nat) (l : List CP) (k : IntKind) (n : Nat) (h : n < l.length) : indexD T 53 (oC q g l) (.i k n) = some (.rp (cR l[n])) := ixm53 _ _ _ _ _ h
theorem oC_ne {k g : Nat} {l : List CP} (h : l ≠ []) : oC k g l = .sl 2 (l.map cR) (.op k g) := DO_ne (by simpa using h)
theorem closed_cR (p : CP) : ClosedC (cR p) := by
  intro c hc
  simp [cR, D.cells] at hc
  rcases hc with rfl | rfl
  · exact closed_s _
  · exact closed_v _
theorem closed_cRs (l : List CP) : ∀ e ∈ l.map cR, ClosedC e := by
  intro e he
  obtain ⟨p, _, rfl⟩ := List.mem_map.1 he
  exact closed_cR p
def gtB (a b : Str) : Bool := !(Op.bytesLess a b || a == b)
def posB {α : Type} (key : α → Str) (r : Str) (o : List α) : Nat → Nat
  | 0 => 0
  | k + 1 => match o[k]? with
    | some y => if gtB (key y) r = true then posB key r o k else k + 1
    | none => k + 1
def insB {α : Type} (key : α → Str) (o : List α) (r : α) : List α := o.take (posB key (key r) o o.length) ++ r :: o.drop (posB key (key r) o o.length)
def sortB {α : Type} (key : α → Str) (l : List α) : List α := l.foldl (insB key) []
theorem posB_le {α : Type} (key : α → Str) (r : Str) (o : List α) : ∀ k, posB key r o k ≤ k
  | 0 => Nat.le_refl _
  | k + 1 => by
    have := posB_le key r o k
    unfold posB
    split
    · split <;> omega
    · omega
theorem posB_succ {α : Type} (key : α → Str) (r : Str) (o : List α) (k : Nat) (h : k < o.length) : posB key r o (k + 1) = if gtB (key o[k]) r = true then posB key r o k else k + 1 := by
  rw [posB, List.getElem?_eq_getElem h]
theorem insB_len {α : Type} (key : α → Str) (o : List α) (r : α) : (insB key o r).length = o.length + 1 := by
  have := posB_le key (key r) o o.length
  simp [insB]; omega
theorem sortB_succ {α : Type} (key : α → Str) (l : List α) (i : Nat) (h : i < l.length) : sortB key (l.take (i + 1)) = insB key (sortB key (l.take i)) l[i] := by
  rw [sortB, List.take_succ_eq_append_getElem h, List.foldl_append]
  rfl
theorem shift_ {o : List CP} {q : Nat} (h : D) (hq : q ≤ o.length) (h0 : 0 < q) : ((o.take q).map cR ++ h :: (o.drop q).map cR).set q (cR (o[q - 1]'(by omega))) = (o.take (q - 1)).map cR ++ cR (o[q - 1]'(by omega)) :: (o.drop (q - 1)).map cR := by
  obtain ⟨p, rfl⟩ : ∃ p, q = p + 1 := ⟨q - 1, by omega⟩
  have hp : p < o.length := by omega
  have e1 : o.take (p + 1) = o.take p ++ [o[p]] := List.take_succ_eq_append_getElem hp
  have e2 : o.drop p = o[p] :: o.drop (p + 1) := List.drop_eq_getElem_cons hp
  have hl : ((o.take (p + 1)).map cR).length = p + 1 := by simp; omega
  rw [List.set_append_right _ _ (by omega), hl, Nat.sub_self, List.set_cons_zero]
  simp only [Nat.add_sub_cancel]
  rw [e1, e2]
  simp only [List.map_append, List.map_cons, List.map_nil, List.append_assoc, List.cons_append, List.nil_append]
theorem place_ {o : List CP} {q : Nat} (h : D) (r : CP) (hq : q ≤ o.length) : ((o.take q).map cR ++ h :: (o.drop q).map cR).set q (cR r) = (o.take q ++ r :: o.drop q).map cR := by
  have hl : ((o.take q).map cR).length = q := by simp; omega
  rw [List.set_append_right _ _ (by omega), hl, Nat.sub_self, List.set_cons_zero]
  simp
theorem app0_C (o : List CP) (g : Nat) {tp : Nat → Option (Nat × Nat)} {c : Nat} {w : Own} (hg : o ≠ [] → tp 53 = some (g, o.length)) (hb : o.length ≤ 100000) :
    appD T 53 tp c (oC 53 g o) (.sl 2 [.ag [.s [], .nil]] w) = some (.sl 2 (o.map cR ++ [.ag [.s [], .nil]]) (.op 53 c), upd tp 53 (some (c, o.length + 1)), c + 1) := by
  have h := ap53 (c := c) (s := oC 53 g o) (x := .sl 2 [.ag [.s [], .nil]] w) (g := g) (es := o.map cR) (es2 := [.ag [.s [], .nil]]) rfl (by simpa using hg) (by simp [elems]) (by simp) (by simp; omega)
  rw [h, DO_app]
  simp
def keep36 (t : Nat) : Bool := t == 4 || t == 5 || t == 6
theorem keep36_ok {fr : Nat → D} {i p q : Nat} (f4 : fr 4 = .i .i64 i) (f5 : fr 5 = .i .i64 p) (f6 : fr 6 = .i .i64 q) : ∀ t, keep36 t = true → Closed (fr t) := by
  intro t ht
  simp [keep36] at ht
  rcases ht with (rfl | rfl) | rfl
  · rw [f4]; exact closed_i _ _
  · rw [f5]; exact closed_i _ _
  · rw [f6]; exact closed_i _ _
theorem walk36 {E0 : Env} {w0 : World} {M : Nat → Prop} (hF : Fresh E0 w0) (hB0 : E0.box = fun _ _ => none) (hM : ∀ b, ¬ M b) (l : List CP) (hl : l.length ≤ 10000) (v0 : Value) (hv0 : Rep E0 w0 v0 (dC l)) (c0 : Nat) : SW T W thr E0 w0 M 61 (Tryz.f36.body.getD .skip) (St.init [.v v0] (fun _ => none) c0) (Go.Sh.Ends T Tryz.f36 fun r τ => ∃ g, r = oC 53 g (sortB Prod.fst l)) := by
  skip
  refine SW_reg fun K_ hK => ?_
  simp [wk, vk, ek, len_dC, St.see, len_oC, ix_oC, erp_oC, St.setOwn, keep36, buildD, fillD, thr]
  refine hK _ ?_
  refine SW_reg fun K_ hK => ?_
  simp [wk, vk, ek, len_dC, St.see, len_oC, ix_oC, erp_oC, St.setOwn, keep36, buildD, fillD, thr]
  refine hK _ ?_
  refine SW_seq1 ?_
  refine SW_reg fun K_ hK => ?_
  simp [wk, vk, ek, len_dC, St.see, len_oC, ix_oC, erp_oC, St.setOwn, keep36, buildD, fillD, thr]
  refine hK _ ?_
  refine SW_for (fun j τ => ∃ (i g : Nat) (o : List CP), j = l.length - i ∧ i ≤ l.length ∧ o = sortB Prod.fst (l.take i) ∧ o.length = i ∧ τ.fr 0 = .v v0 ∧ τ.fr 3 = oC 53 g o ∧ (o ≠ [] → τ.tp 53 = some (g, o.length)) ∧ τ.fr 4 = .i .i64 i ∧ τ.c = c0 + i) (l.length) ?_ ?_
  · exact ⟨0, 0, [], rfl, by omega, rfl, rfl, by simp [upd], by simp [upd]; rfl, by simp, by simp [upd], rfl⟩
  · rintro j ⟨fr, bx, tp, c⟩ ⟨i, g, o, rfl, hi, ho, hol, f0, f3, htp, f4, hcc⟩ K0 hN0 hX0 hR0 hJ0
    simp only at f0 f3 htp f4 hcc
    subst hcc
    refine SW_seq1 ?_
    refine SW_seq1 ?_
    refine SW_view (t := 0) (v := v0) (d := dC l) (by simp [upd, f0]) hv0 (by kernel_rfl) fun K_ hK => ?_
    simp [wk, vk, ek, len_dC, St.see, len_oC, ix_oC, erp_oC, St.setOwn, keep36, buildD, fillD, thr, f0, f3, f4]
    refine hK _ ?_
    refine SW_cond rfl (fun hct10 => ?_) (fun hct10 => ?_)
    · have hil : i < l.length := by simpa [wk, vk, ek, len_oC, f0, f4] using hct10
      refine SW_sk ?_
      refine SW_seq1 ?_
      refine SW_blk fun K1 hn1 hx1 hr1 hj1 => ?_
      refine SW_reg fun K_ hK => ?_
      simp [wk, vk, ek, len_dC, St.see, len_oC, ix_oC, erp_oC, St.setOwn, keep36, buildD, fillD, thr, f0, f3, f4, hil]
      refine hK _ ?_
      refine SW_seq1 ?_
      refine SW_for (fun j τ => ∃ (k : Nat), j = k ∧ k ≤ i ∧ posB Prod.fst (l[i]'hil).1 o k = posB Prod.fst (l[i]'hil).1 o i ∧ τ.fr 0 = .v v0 ∧ τ.fr 3 = oC 53 g o ∧ (o ≠ [] → τ.tp 53 = some (g, o.length)) ∧ τ.fr 4 = .i .i64 i ∧ τ.fr 5 = .i .i64 k ∧ τ.c = c0 + i) (i) ?_ ?_
      · exact ⟨i, rfl, by omega, rfl, by simp [upd, f0], by simp [upd, f3], htp, by simp [upd, f4], by simp [upd, hol], rfl⟩
      · rintro j ⟨fr, bx, tp, c⟩ ⟨k, hjk, hki, hpk, f0, f3, htp, f4, f5, hcc⟩ K2 hN2 hX2 hR2 hJ2
        simp only at f0 f3 htp f4 f5 hcc
        subst hcc
        refine SW_seq1 ?_
        rcases Nat.eq_zero_or_pos k with hk0 | hk0
        · have hpe : posB Prod.fst (l[i]'hil).1 o i = k := by rw [← hpk, hk0]; rfl
          have hk1 : ¬ 0 < k := by omega
          refine SW_seq1 ?_
          refine SW_view (t := 0) (v := v0) (d := dC l) (by simp [upd, f0]) hv0 (by kernel_rfl) fun K_ hK => ?_
          simp [wk, vk, ek, len_dC, St.see, len_oC, ix_oC, erp_oC, St.setOwn, keep36, buildD, fillD, thr, f0, f3, f4, f5, hil, hk1]
          refine hK _ ?_
          refine SW_no rfl ?_
          refine SW_ex ?_
          refine hX2 _ ?_
          refine SW_reg fun K_ hK => ?_
          simp [wk, vk, ek, len_dC, St.see, len_oC, ix_oC, erp_oC, St.setOwn, keep36, buildD, fillD, thr, f0, f3, f4, f5, hil]
          refine AppW_use (app0_C o g htp (by omega)) ?_
          simp [wk, vk, ek, len_dC, St.see, len_oC, ix_oC, erp_oC, St.setOwn, keep36, buildD, fillD, thr, f0, f3, f4, f5, hil]
          refine hK _ ?_
          refine SW_seq1 ?_
          refine SW_reg fun K_ hK => ?_
          simp [wk, vk, ek, len_dC, St.see, len_oC, ix_oC, erp_oC, St.setOwn, keep36, buildD, fillD, thr, f0, f3, f4, f5, hil]
          refine hK _ ?_
          refine SW_for (fun j τ => ∃ (q : Nat) (h : D), j = q - k ∧ k ≤ q ∧ q ≤ i ∧ ClosedC h ∧ h.cells.length = 2 ∧ τ.fr 0 = .v v0 ∧ τ.fr 3 = .sl 2 ((o.take q).map cR ++ h :: (o.drop q).map cR) (.op 53 (c0 + i)) ∧ τ.tp 53 = some (c0 + i, i + 1) ∧ τ.fr 4 = .i .i64 i ∧ τ.fr 5 = .i .i64 k ∧ τ.fr 6 = .i .i64 q ∧ τ.c = c0 + i + 1) (i - k) ?_ ?_
          · refine ⟨i, .ag [.s [], .nil], rfl, hki, by omega, ?_, rfl, by simp [upd, f0], ?_, by simp [upd, hol], by simp [upd, f4], by simp [upd, f5], ?_, rfl⟩
            · intro c hc
              simp [D.cells] at hc
              rcases hc with rfl | rfl
              · exact closed_s _
              · exact closed_nil
            · have e1 : o.take i = o := List.take_of_length_le (by omega)
              have e2 : o.drop i = [] := List.drop_of_length_le (by omega)
              simp only [e1, e2]
              simp [upd]
            · simp [upd, hol]; rw [w64 (by omega) (by omega)]
          · rintro j ⟨fr, bx, tp, c⟩ ⟨q, h, rfl, hkq, hqi, hch, hcl, f0, f3, htp, f4, f5, f6, hcc⟩ K4 hN4 hX4 hR4 hJ4
            simp only at f0 f3 htp f4 f5 f6 hcc
            subst hcc
            refine SW_seq1 ?_
            refine SW_reg fun K_ hK => ?_
            simp [wk, vk, ek, len_dC, St.see, len_oC, ix_oC, erp_oC, St.setOwn, keep36, buildD, fillD, thr, f0, f3, f4, f5, f6, hil]
            refine hK _ ?_
            refine SW_cond rfl (fun hct42 => ?_) (fun hct42 => ?_)
            · have hq : k < q := by simpa [wk, vk, ek, f5, f6] using hct42
              refine SW_sk ?_
              refine SW_seq1 ?_
              refine SW_blk fun K5 hn5 hx5 hr5 hj5 => ?_
              obtain ⟨ES, hES⟩ : ∃ ES, ES = (o.take q).map cR ++ h :: (o.drop q).map cR := ⟨_, rfl⟩
              rw [← hES] at f3
              have hESl : ES.length = i + 1 := by rw [hES]; simp; omega
              have hESc : ∀ e ∈ ES, ClosedC e := by
                rw [hES]; intro e he
                rcases List.mem_append.1 he with he | he
                · exact closed_cRs _ e he
                · rcases List.mem_cons.1 he with rfl | he
                  · exact hch
                  · exact closed_cRs _ e he
              obtain ⟨r, hr⟩ : ∃ r, q = r + 1 := ⟨q - 1, by omega⟩
              have hro : r < o.length := by omega
              have hrl : r < ES.length := by omega
              have e1 : IntKind.i64.wrap ((q : Int) - 1) = (r : Int) := by rw [w64 (by omega) (by omega)]; omega
              have hgd0 : ES[r]?.getD .u = cR (o[r]'hro) := by
                rw [hES, List.getElem?_append_left (by simp; omega)]
                simp [List.getElem?_take, show r < q by omega, hro]
              have hgd : ES[r] = cR (o[r]'hro) := by simpa [hrl] using hgd0
              have hsh := shift_ h (show q ≤ o.length by omega) (by omega)
              simp only [show q - 1 = r by omega] at hsh
              refine SW_set 7 (t0 := 0) (d0 := dC l) (v0 := v0) (tA := 52) (sS := 45) (sI := 46) (sV := 51) (tS := 3) (keep := keep36) rfl (by simp [upd, f0]) hv0 (by kernel_rfl) hF hB0 hM und53 (by decide) fun K_ hK => ?_
              simp [wk, vk, ek, St.see, len_dC, f0, f3, f4, f5, f6, e1, hrl, hgd, cR, thr]
              refine hK _ ?_
              refine ⟨keep36_ok (i := i) (p := k) (q := q) (by simp [upd, f4]) (by simp [upd, f5]) (by simp [upd, f6]), 53, c0 + i, 2, ES, q, .i64, cR (o[r]'hro), by rw [hESl]; exact htp, by omega, tsz74, by simp [upd, f3], by simp [upd, f3], by simp [upd, f6], by omega, by simp [upd, cR], rfl, rfl, closed_cR _, hESc, ?_⟩
              rw [hES, hsh]
              refine hn5 _ ?_
              refine SW_reg1 fun K_ hK => ?_
              simp [wk, vk, ek, len_dC, St.see, len_oC, ix_oC, erp_oC, St.setOwn, keep36, buildD, fillD, thr, f0, f3, f4, f5, f6, hil]
              refine hK _ ?_
              refine hN4 (r - k) _ (by omega) ⟨r, cR (o[r]'hro), rfl, by omega, by omega, closed_cR _, rfl, by simp [upd, f0], by simp [upd, f3], htp, by simp [upd, f4], by simp [upd, f5], ?_, rfl⟩
              simp [upd, f6, e1]
            · have hq : ¬ k < q := by simpa [wk, vk, ek, f5, f6] using hct42
              obtain rfl : q = k := by omega
              refine SW_ex ?_
              refine hX4 _ ?_
              obtain ⟨ES, hES⟩ : ∃ ES, ES = (o.take q).map cR ++ h :: (o.drop q).map cR := ⟨_, rfl⟩
              rw [← hES] at f3
              have hESl : ES.length = i + 1 := by rw [hES]; simp; omega
              have hESc : ∀ e ∈ ES, ClosedC e := by
                rw [hES]; intro e he
                rcases List.mem_append.1 he with he | he
                · exact closed_cRs _ e he
                · rcases List.mem_cons.1 he with rfl | he
                  · exact hch
                  · exact closed_cRs _ e he
              have hx := ix_dC l .i64 i hil
              refine SW_set 6 (t0 := 0) (d0 := dC l) (v0 := v0) (tA := 59) (sS := 53) (sI := 54) (sV := 58) (tS := 3) (keep := keep36) rfl (by simp [upd, f0]) hv0 (by kernel_rfl) hF hB0 hM und53 (by decide) fun K_ hK => ?_
              simp [wk, vk, ek, St.see, len_dC, f0, f3, f4, f5, f6, hx, cR, thr]
              refine hK _ ?_
              refine ⟨keep36_ok (i := i) (p := q) (q := q) (by simp [upd, f4]) (by simp [upd, f5]) (by simp [upd, f6]), 53, c0 + i, 2, ES, q, .i64, cR l[i], by rw [hESl]; exact htp, by omega, tsz74, by simp [upd, f3], by simp [upd, f3], by simp [upd, f5], by omega, by simp [upd, cR], rfl, rfl, closed_cR _, hESc, ?_⟩
              rw [hES, place_ h l[i] (by omega)]
              have hins : insB Prod.fst o l[i] = o.take q ++ l[i] :: o.drop q := by rw [insB, hol, hpe]
              have hoc : oC 53 (c0 + i) (insB Prod.fst o l[i]) = .sl 2 ((o.take q ++ l[i] :: o.drop q).map cR) (.op 53 (c0 + i)) := by rw [hins]; exact oC_ne (by simp)
              refine hn1 _ ?_
              refine SW_reg1 fun K_ hK => ?_
              simp [wk, vk, ek, len_dC, St.see, len_oC, ix_oC, erp_oC, St.setOwn, keep36, buildD, fillD, thr, f0, f3, f4, f5, f6, hil]
              refine hK _ ?_
              refine hN0 (l.length - (i + 1)) _ (by omega) ⟨i + 1, c0 + i, insB Prod.fst o l[i], rfl, by omega, by rw [sortB_succ _ _ _ hil, ← ho], by rw [insB_len]; omega, by simp [upd, f0, St.setOwn, keep36], by rw [hoc]; simp [upd], fun _ => by rw [insB_len, hol]; exact htp, ?_, rfl⟩
              simp [upd, f4, St.setOwn, keep36]; rw [w64 (by omega) (by omega)]
        · obtain ⟨k1, hk1⟩ : ∃ k1, k = k1 + 1 := ⟨k - 1, by omega⟩
          have hko : k1 < o.length := by omega
          have e1 : IntKind.i64.wrap ((k : Int) - 1) = (k1 : Int) := by rw [w64 (by omega) (by omega)]; omega
          have hx := ix_oC 53 g o .i64 k1 hko
          have hy := ix_dC l .i64 i hil
          have hps := posB_succ Prod.fst (l[i]'hil).1 o k1 hko
          rw [← hk1] at hps
          refine SW_seq1 ?_
          refine SW_view (t := 0) (v := v0) (d := dC l) (by simp [upd, f0]) hv0 (by kernel_rfl) fun K_ hK => ?_
          simp [wk, vk, ek, len_dC, St.see, len_oC, ix_oC, erp_oC, St.setOwn, keep36, buildD, fillD, thr, f0, f3, f4, f5, hil, hk0, e1, hx, hy, cR]
          refine hK _ ?_
          refine SW_cond rfl (fun hct30 => ?_) (fun hct30 => ?_)
          · have hgt : gtB (Prod.fst (o[k1]'hko)) (l[i]'hil).1 = true := by simpa [gtB, wk, vk, ek] using hct30
            refine SW_sk ?_
            refine SW_blk fun K3 hn3 hx3 hr3 hj3 => ?_
            refine SW_reg1 fun K_ hK => ?_
            simp [wk, vk, ek, len_dC, St.see, len_oC, ix_oC, erp_oC, St.setOwn, keep36, buildD, fillD, thr, f0, f3, f4, f5, hil, hk0, e1, hx, hy, cR]
            refine hK _ ?_
            refine hn3 _ ?_
            refine hN2 k1 _ (by omega) ⟨k1, rfl, by omega, by rw [← hpk, hps, if_pos hgt], by simp [upd, f0], by simp [upd, f3], htp, by simp [upd, f4], ?_, rfl⟩
            simp [upd, e1]
          · have hgt : ¬ gtB (Prod.fst (o[k1]'hko)) (l[i]'hil).1 = true := by simpa [gtB, wk, vk, ek] using hct30
            have hpe : posB Prod.fst (l[i]'hil).1 o i = k := by rw [← hpk, hps, if_neg hgt, hk1]
            refine SW_ex ?_
            refine hX2 _ ?_
            refine SW_reg fun K_ hK => ?_
            simp [wk, vk, ek, len_dC, St.see, len_oC, ix_oC, erp_oC, St.setOwn, keep36, buildD, fillD, thr, f0, f3, f4, f5, hil]
            refine AppW_use (app0_C o g htp (by omega)) ?_
            simp [wk, vk, ek, len_dC, St.see, len_oC, ix_oC, erp_oC, St.setOwn, keep36, buildD, fillD, thr, f0, f3, f4, f5, hil]
            refine hK _ ?_
            refine SW_seq1 ?_
            refine SW_reg fun K_ hK => ?_
            simp [wk, vk, ek, len_dC, St.see, len_oC, ix_oC, erp_oC, St.setOwn, keep36, buildD, fillD, thr, f0, f3, f4, f5, hil]
            refine hK _ ?_
            refine SW_for (fun j τ => ∃ (q : Nat) (h : D), j = q - k ∧ k ≤ q ∧ q ≤ i ∧ ClosedC h ∧ h.cells.length = 2 ∧ τ.fr 0 = .v v0 ∧ τ.fr 3 = .sl 2 ((o.take q).map cR ++ h :: (o.drop q).map cR) (.op 53 (c0 + i)) ∧ τ.tp 53 = some (c0 + i, i + 1) ∧ τ.fr 4 = .i .i64 i ∧ τ.fr 5 = .i .i64 k ∧ τ.fr 6 = .i .i64 q ∧ τ.c = c0 + i + 1) (i - k) ?_ ?_
            · refine ⟨i, .ag [.s [], .nil], rfl, hki, by omega, ?_, rfl, by simp [upd, f0], ?_, by simp [upd, hol], by simp [upd, f4], by simp [upd, f5], ?_, rfl⟩
              · intro c hc
                simp [D.cells] at hc
                rcases hc with rfl | rfl
                · exact closed_s _
                · exact closed_nil
              · have e1 : o.take i = o := List.take_of_length_le (by omega)
                have e2 : o.drop i = [] := List.drop_of_length_le (by omega)
                simp only [e1, e2]
                simp [upd]
              · simp [upd, hol]; rw [w64 (by omega) (by omega)]
            · rintro j ⟨fr, bx, tp, c⟩ ⟨q, h, rfl, hkq, hqi, hch, hcl, f0, f3, htp, f4, f5, f6, hcc⟩ K4 hN4 hX4 hR4 hJ4
              simp only at f0 f3 htp f4 f5 f6 hcc
              subst hcc
              refine SW_seq1 ?_
              refine SW_reg fun K_ hK => ?_
              simp [wk, vk, ek, len_dC, St.see, len_oC, ix_oC, erp_oC, St.setOwn, keep36, buildD, fillD, thr, f0, f3, f4, f5, f6, hil]
              refine hK _ ?_
              refine SW_cond rfl (fun hct42 => ?_) (fun hct42 => ?_)
              · have hq : k < q := by simpa [wk, vk, ek, f5, f6] using hct42
                refine SW_sk ?_
                refine SW_seq1 ?_
                refine SW_blk fun K5 hn5 hx5 hr5 hj5 => ?_
                obtain ⟨ES, hES⟩ : ∃ ES, ES = (o.take q).map cR ++ h :: (o.drop q).map cR := ⟨_, rfl⟩
                rw [← hES] at f3
                have hESl : ES.length = i + 1 := by rw [hES]; simp; omega
                have hESc : ∀ e ∈ ES, ClosedC e := by
                  rw [hES]; intro e he
                  rcases List.mem_append.1 he with he | he
                  · exact closed_cRs _ e he
                  · rcases List.mem_cons.1 he with rfl | he
                    · exact hch
                    · exact closed_cRs _ e he
                obtain ⟨r, hr⟩ : ∃ r, q = r + 1 := ⟨q - 1, by omega⟩
                have hro : r < o.length := by omega
                have hrl : r < ES.length := by omega
                have e1 : IntKind.i64.wrap ((q : Int) - 1) = (r : Int) := by rw [w64 (by omega) (by omega)]; omega
                have hgd0 : ES[r]?.getD .u = cR (o[r]'hro) := by
                  rw [hES, List.getElem?_append_left (by simp; omega)]
                  simp [List.getElem?_take, show r < q by omega, hro]
                have hgd : ES[r] = cR (o[r]'hro) := by simpa [hrl] using hgd0
                have hsh := shift_ h (show q ≤ o.length by omega) (by omega)
                simp only [show q - 1 = r by omega] at hsh
                refine SW_set 7 (t0 := 0) (d0 := dC l) (v0 := v0) (tA := 52) (sS := 45) (sI := 46) (sV := 51) (tS := 3) (keep := keep36) rfl (by simp [upd, f0]) hv0 (by kernel_rfl) hF hB0 hM und53 (by decide) fun K_ hK => ?_
                simp [wk, vk, ek, St.see, len_dC, f0, f3, f4, f5, f6, e1, hrl, hgd, cR, thr]
                refine hK _ ?_
                refine ⟨keep36_ok (i := i) (p := k) (q := q) (by simp [upd, f4]) (by simp [upd, f5]) (by simp [upd, f6]), 53, c0 + i, 2, ES, q, .i64, cR (o[r]'hro), by rw [hESl]; exact htp, by omega, tsz74, by simp [upd, f3], by simp [upd, f3], by simp [upd, f6], by omega, by simp [upd, cR], rfl, rfl, closed_cR _, hESc, ?_⟩
                rw [hES, hsh]
                refine hn5 _ ?_
                refine SW_reg1 fun K_ hK => ?_
                simp [wk, vk, ek, len_dC, St.see, len_oC, ix_oC, erp_oC, St.setOwn, keep36, buildD, fillD, thr, f0, f3, f4, f5, f6, hil]
                refine hK _ ?_
                refine hN4 (r - k) _ (by omega) ⟨r, cR (o[r]'hro), rfl, by omega, by omega, closed_cR _, rfl, by simp [upd, f0], by simp [upd, f3], htp, by simp [upd, f4], by simp [upd, f5], ?_, rfl⟩
                simp [upd, f6, e1]
              · have hq : ¬ k < q := by simpa [wk, vk, ek, f5, f6] using hct42
                obtain rfl : q = k := by omega
                refine SW_ex ?_
                refine hX4 _ ?_
                obtain ⟨ES, hES⟩ : ∃ ES, ES = (o.take q).map cR ++ h :: (o.drop q).map cR := ⟨_, rfl⟩
                rw [← hES] at f3
                have hESl : ES.length = i + 1 := by rw [hES]; simp; omega
                have hESc : ∀ e ∈ ES, ClosedC e := by
                  rw [hES]; intro e he
                  rcases List.mem_append.1 he with he | he
                  · exact closed_cRs _ e he
                  · rcases List.mem_cons.1 he with rfl | he
                    · exact hch
                    · exact closed_cRs _ e he
                have hx := ix_dC l .i64 i hil
                refine SW_set 6 (t0 := 0) (d0 := dC l) (v0 := v0) (tA := 59) (sS := 53) (sI := 54) (sV := 58) (tS := 3) (keep := keep36) rfl (by simp [upd, f0]) hv0 (by kernel_rfl) hF hB0 hM und53 (by decide) fun K_ hK => ?_
                simp [wk, vk, ek, St.see, len_dC, f0, f3, f4, f5, f6, hx, cR, thr]
                refine hK _ ?_
                refine ⟨keep36_ok (i := i) (p := q) (q := q) (by simp [upd, f4]) (by simp [upd, f5]) (by simp [upd, f6]), 53, c0 + i, 2, ES, q, .i64, cR l[i], by rw [hESl]; exact htp, by omega, tsz74, by simp [upd, f3], by simp [upd, f3], by simp [upd, f5], by omega, by simp [upd, cR], rfl, rfl, closed_cR _, hESc, ?_⟩
                rw [hES, place_ h l[i] (by omega)]
                have hins : insB Prod.fst o l[i] = o.take q ++ l[i] :: o.drop q := by rw [insB, hol, hpe]
                have hoc : oC 53 (c0 + i) (insB Prod.fst o l[i]) = .sl 2 ((o.take q ++ l[i] :: o.drop q).map cR) (.op 53 (c0 + i)) := by rw [hins]; exact oC_ne (by simp)
                refine hn1 _ ?_
                refine SW_reg1 fun K_ hK => ?_
                simp [wk, vk, ek, len_dC, St.see, len_oC, ix_oC, erp_oC, St.setOwn, keep36, buildD, fillD, thr, f0, f3, f4, f5, f6, hil]
                refine hK _ ?_
                refine hN0 (l.length - (i + 1)) _ (by omega) ⟨i + 1, c0 + i, insB Prod.fst o l[i], rfl, by omega, by rw [sortB_succ _ _ _ hil, ← ho], by rw [insB_len]; omega, by simp [upd, f0, St.setOwn, keep36], by rw [hoc]; simp [upd], fun _ => by rw [insB_len, hol]; exact htp, ?_, rfl⟩
                simp [upd, f4, St.setOwn, keep36]; rw [w64 (by omega) (by omega)]
    · have hil : ¬ i < l.length := by simpa [wk, vk, ek, len_oC, f0, f4] using hct10
      obtain rfl : i = l.length := by omega
      rw [List.take_length] at ho
      refine SW_ex ?_
      refine hX0 _ ?_
      refine SW_reg fun K_ hK => ?_
      simp [wk, vk, ek, len_dC, St.see, len_oC, ix_oC, erp_oC, St.setOwn, keep36, buildD, fillD, thr, f0, f3, f4, List.take_length]
      refine hK _ ?_
      refine SW_rt ?_
      refine ends_ret ?_
      simp [Tryz.results36, resD, resL, resD1, vk, wk, f0, f3, f4]
      exact ⟨g, by rw [ho]⟩
end Go.Proofs.YtobamidecbfgpaaGreatDoor
namespace Go.Proofs.YtobamidecbfgpaaGreatDoor
open Go Go.Sh Go.RowKit
set_option linter.unusedVariables false
variable {W : World}
theorem insB_perm {α : Type} (key : α → Str) (o : List α) (r : α) : (insB key o r).Perm (r :: o) := by
  have h := List.perm_middle (a := r) (l₁ := o.take (posB key (key r) o o.length)) (l₂ := o.drop (posB key (key r) o o.length))
  rw [List.take_append_drop] at h
  exact h
theorem sortB_perm {α : Type} (key : α → Str) (l : List α) : (sortB key l).Perm l := by
  have key' : ∀ (l o : List α), (l.foldl (insB key) o).Perm (l ++ o) := by
    intro l
    induction l with
    | nil => exact fun o => .refl _
    | cons r l ih =>
      intro o
      refine (ih _).trans ?_
      refine (List.Perm.append_left l (insB_perm key o r)).trans ?_
      exact List.perm_middle
  have := key' l []
  rwa [List.append_nil] at this
theorem posB_map {α β : Type} (f : β → α) (key : α → Str) (r : Str) (o : List β) : ∀ k, posB key r (o.map f) k = posB (key ∘ f) r o k
  | 0 => rfl
  | k + 1 => by
    unfold posB
    rw [List.getElem?_map, posB_map f key r o k]
    cases o[k]? <;> rfl
theorem insB_map {α β : Type} (f : β → α) (key : α → Str) (o : List β) (r : β) : insB key (o.map f) (f r) = (insB (key ∘ f) o r).map f := by
  unfold insB
  rw [posB_map, List.length_map, List.map_append, List.map_cons, List.map_take, List.map_drop]
  rfl
theorem sortB_map {α β : Type} (f : β → α) (key : α → Str) (l : List β) : sortB key (l.map f) = (sortB (key ∘ f) l).map f := by
  have key' : ∀ (l o : List β), (l.map f).foldl (insB key) (o.map f) = (l.foldl (insB (key ∘ f)) o).map f := by
    intro l
    induction l with
    | nil => exact fun o => rfl
    | cons r l ih =>
      intro o
      rw [List.map_cons, List.foldl_cons, List.foldl_cons, insB_map]
      exact ih _
  exact key' l []
/-- Rows by their values. -/
theorem row_view {E : Env} {w : World} {v0 : Value} {rows : List Row} (h : Rep E w v0 (dRows rows)) : ∃ z : List (Row × Value), z.map Prod.fst = rows ∧ (∀ p ∈ z, Rep E w p.2 (dBytes p.1.val)) ∧ Rep E w v0 (dC (z.map fun p => (p.1.key, p.2))) := by
  by_cases hne : rows = []
  · subst hne
    exact ⟨[], rfl, fun p hp => (by cases hp), h⟩
  rw [show dRows rows = .sl 2 (rows.map dRow) .shut from DO_ne (by simpa using hne)] at h
  cases h with
  | sl blk off n cap _ _ _ f hn hcap hmax ho hgl h1 hc hr =>
  rw [List.length_map] at hn
  obtain ⟨z, hz⟩ : ∃ z : List (Row × Value), z = rows.zip ((List.range n).map fun i => f i 1) := ⟨_, rfl⟩
  have hzf : z.map Prod.fst = rows := by rw [hz]; exact List.map_fst_zip (by simp; omega)
  have hzl : z.length = n := by rw [← hn, ← hzf, List.length_map]
  have hzi : ∀ (i : Nat) (hi : i < z.length), z[i] = (rows[i]'(by omega), f i 1) := by
    intro i hi
    subst hz
    simp
  refine ⟨z, hzf, ?_, ?_⟩
  · intro p hp
    obtain ⟨i, hi, rfl⟩ := List.getElem_of_mem hp
    rw [hzi i hi]
    have := hr i 1 (by omega) (by omega)
    have hi2 : i < rows.length := by omega
    simpa [List.getD, hi2, dRow, D.cells] using this
  · have hl0 : (z.map fun p => (p.1.key, p.2)) ≠ [] := by
      intro hh
      have := congrArg List.length hh
      rw [List.length_map, hzl] at this
      exact hne (List.eq_nil_of_length_eq_zero (by rw [hn]; exact this))
    rw [show dC (z.map fun p => (p.1.key, p.2)) = .sl 2 ((z.map fun p => (p.1.key, p.2)).map cR) .shut from DO_ne (by simpa using hl0)]
    refine .sl blk off n cap 2 _ _ f (by simpa using hzl) hcap hmax trivial ?_ h1 hc (fun i j hi hj => ?_)
    · intro d hd
      obtain ⟨p, _, rfl⟩ := List.mem_map.1 hd
      rfl
    · have hi2 : i < z.length := by omega
      have hi3 : i < rows.length := by omega
      have h2 := hr i j hi hj
      have ed : (((z.map fun p => (p.1.key, p.2)).map cR).getD i .u) = cR (rows[i].key, f i 1) := by simp [List.getD, hi2, hzi i hi2]
      rw [ed]
      have : j = 0 ∨ j = 1 := by omega
      rcases this with rfl | rfl
      · have h3 : Rep E w (f i 0) (.s rows[i].key) := by simpa [List.getD, hi3, dRow, D.cells] using h2
        exact h3
      · exact .v _
theorem view_row {E : Env} {w : World} {v : Value} {z : List (Row × Value)} (hz : ∀ p ∈ z, Rep E w p.2 (dBytes p.1.val)) (h : Rep E w v (dC (z.map fun p => (p.1.key, p.2)))) : Rep E w v (dRows (z.map Prod.fst)) := by
  by_cases hne : z = []
  · subst hne
    exact h
  rw [show dC (z.map fun p => (p.1.key, p.2)) = .sl 2 ((z.map fun p => (p.1.key, p.2)).map cR) .shut from DO_ne (by simpa using hne)] at h
  rw [show dRows (z.map Prod.fst) = .sl 2 ((z.map Prod.fst).map dRow) .shut from DO_ne (by simpa using hne)]
  cases h with
  | sl blk2 off2 n2 cap2 _ _ _ f2 hn2 hcap2 hmax2 ho2 hgl2 h12 hc2 hr2 =>
  simp only [List.length_map] at hn2
  refine .sl blk2 off2 n2 cap2 2 _ _ f2 (by simpa using hn2) hcap2 hmax2 trivial ?_ h12 hc2 (fun i j hi hj => ?_)
  · intro d hd
    obtain ⟨p, _, rfl⟩ := List.mem_map.1 hd
    rfl
  · have hi2 : i < z.length := by omega
    have h2 := hr2 i j hi hj
    have ed : (((z.map fun p => (p.1.key, p.2)).map cR).getD i .u) = cR (z[i].1.key, z[i].2) := by simp [List.getD, hi2]
    have ee : (((z.map Prod.fst).map dRow).getD i .u) = dRow z[i].1 := by simp [List.getD, hi2]
    rw [ed] at h2
    rw [ee]
    have : j = 0 ∨ j = 1 := by omega
    rcases this with rfl | rfl
    · exact h2
    · have h3 : Rep E w (f2 i 1) (.v z[i].2) := h2
      have h4 : f2 i 1 = z[i].2 := by generalize f2 i 1 = y at h3; cases h3; rfl
      rw [h4]
      exact hz _ (List.getElem_mem hi2)
theorem er_oC (k g : Nat) (l : List CP) : er (oC k g l) = dC l := by
  have : er ∘ cR = cR := by funext p; simp [cR, er]
  simp [oC, dC, er_DO, this]
theorem sorted36 (rows : List Row) (hl : rows.length ≤ 10000) : Fc T W 36 [dRows rows] (dRows (sortB Row.key rows)) := by
  intro pr w vs hg hfresh hvs
  obtain ⟨v0, rfl⟩ : ∃ v0, vs = [v0] := by
    match vs, hvs.1 with
    | [v0], _ => exact ⟨v0, rfl⟩
  have hr0 : Rep (isoE pr) w v0 (dRows rows) := hvs.2 0 (by simp)
  obtain ⟨z, hzf, hzr, hrep⟩ := row_view hr0
  obtain ⟨l, hll⟩ : ∃ l : List CP, l = z.map fun p => (p.1.key, p.2) := ⟨_, rfl⟩
  rw [← hll] at hrep
  have hsim : Sim W (isoE pr) w (fun _ => False) 61 (St.init [.v v0] (fun _ => none) 0) (isoE pr) { tmps := [v0].toArray ++ Array.replicate 60 undef, defers := [] } w := by
    refine ⟨⟨⟨fun k g b hb => (by cases hb), fun k g k' g' b hb => (by cases hb), fun k g b k' T hb => (by cases hb)⟩, ⟨fun k g n ht => (by cases ht), fun k T hT => (by cases hT), fun k k' T T' hT => (by cases hT)⟩, hfresh, Kp.refl _ w, Ext.refl _ _, rfl, fun _ _ _ => rfl, hg, hg.size, fun b hb => hb.elim⟩, by simp, rfl, fun t => init_fr (vs := [_]) (args := [_]) ⟨rfl, fun j hj => ?_⟩ _ t⟩
    have : j = 0 := by simpa using hj
    subst this
    exact .v _
  have hlr : l.length = rows.length := by rw [hll, ← hzf, List.length_map, List.length_map]
  have hw := walk36 (W := W) (E0 := isoE pr) (w0 := w) (M := fun _ => False) hfresh rfl (fun _ h => h) l (by omega) v0 hrep 0
  refine calls_of_wp Tryz.func36 rfl ?_
  refine wp_mono (hw hmix (by kernel_rfl) (isoE pr) _ w (fun k g h => absurd rfl h) hsim) (ends_body (fun τ E' a w' d v hs hv hR => ?_))
  obtain ⟨g', rfl⟩ := hR
  have hb := hs.base
  have hx : Ext (isoE pr) w (isoE E'.pr) w' := ⟨hb.ext.pr, hb.ext.cell, fun k g b hh => (by cases hh), fun k T hT => (by cases hT), Nat.le_refl _⟩
  obtain ⟨zs, hzs⟩ : ∃ zs, zs = sortB (fun p : Row × Value => p.1.key) z := ⟨_, rfl⟩
  have ez1 : sortB Prod.fst l = zs.map fun p => (p.1.key, p.2) := by rw [hll, sortB_map, hzs]; rfl
  have ez2 : sortB Row.key rows = zs.map Prod.fst := by rw [← hzf, sortB_map, hzs]; rfl
  have hperm : zs.Perm z := by rw [hzs]; exact sortB_perm _ _
  have hv2 := hv.iso
  rw [er_oC, ez1] at hv2
  have hbel : Below w.heap.size w w' := ⟨hb.kp.os, hb.kp.tape, hb.kp.output, hb.kp.size, fun b hlt => hb.kp.block b hlt (fun h => h)⟩
  exact ⟨v, E'.pr, rfl, by rw [ez2]; exact view_row (fun p hp => (hzr p (hperm.mem_iff.1 hp)).ext hx) hv2, hbel, fun b hlt => hb.old b hlt (fun h => h), hb.fresh⟩
end Go.Proofs.YtobamidecbfgpaaGreatDoor
