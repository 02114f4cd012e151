/- Words, over the shadow. No condition. -/
import Derived.Test.YtobamidecbfgpaaGreatDoorId
namespace Go.Proofs.YtobamidecbfgpaaGreatDoor
open Go Go.Sh Go.RowKit
set_option linter.unusedVariables false
set_option linter.unusedSimpArgs false
set_option maxRecDepth 10000
variable {W : World}
def joinS (c : Nat) : List Str → Str
  | [] => []
  | [a] => a
  | a :: b :: r => a ++ u8 c :: joinS c (b :: r)
/-- Where the loop of split stands. -/
def Spl (c : Nat) (s : Str) (segs : List Str) (i from_ : Nat) (o : List Str) : Prop :=
  (∃ pre a b rest, s = pre ++ joinS c ((a ++ b) :: rest) ∧ segs = o ++ (a ++ b) :: rest ∧ from_ = pre.length ∧ i = pre.length + a.length) ∨ (o = segs ∧ i = s.length + 1)
theorem spl_cases {c : Nat} {s : Str} {segs : List Str} {i from_ : Nat} {o : List Str} (h : Spl c s segs i from_ o) (hc : c < 256) (hn : ∀ g ∈ segs, ∀ b ∈ g, b.toNat ≠ c) :
    (∃ h : i < s.length, s[i].toNat ≠ c ∧ Spl c s segs (i + 1) from_ o) ∨ (i = s.length ∧ from_ ≤ i ∧ Spl c s segs (i + 1) (i + 1) (o ++ [(s.take i).drop from_])) ∨ (∃ h : i < s.length, s[i].toNat = c ∧ from_ ≤ i ∧ Spl c s segs (i + 1) (i + 1) (o ++ [(s.take i).drop from_])) ∨ (o = segs ∧ i = s.length + 1) := by
  rcases h with ⟨pre, a, b, rest, hs, hsg, hf, hi⟩ | h
  · have hd : ∀ t : Str, s = pre ++ (a ++ t) → (s.take i).drop from_ = a := by
      intro t e
      rw [e, hf, hi, ← List.append_assoc, ← List.length_append, List.take_left]
      simp
    cases b with
    | cons x b =>
      have e : ∃ t, s = (pre ++ a) ++ x :: t := by
        cases rest with
        | nil => exact ⟨b, by rw [hs]; simp [joinS]⟩
        | cons r0 r => exact ⟨b ++ u8 c :: joinS c (r0 :: r), by rw [hs]; simp [joinS]⟩
      obtain ⟨t, e⟩ := e
      have hil : i < s.length := by rw [e, hi]; simp
      refine .inl ⟨hil, ?_, .inl ⟨pre, a ++ [x], b, rest, by rw [hs]; simp, by rw [hsg]; simp, hf, by rw [hi]; simp; omega⟩⟩
      have : s[i] = x := by simp [e, hi, List.getElem_append]
      rw [this]
      exact hn (a ++ x :: b) (by rw [hsg]; simp) x (by simp)
    | nil =>
      simp only [List.append_nil] at hs hsg
      cases rest with
      | nil =>
        simp only [joinS] at hs
        refine .inr (.inl ⟨by rw [hs, hi]; simp, by omega, .inr ⟨?_, by rw [hs, hi]; simp⟩⟩)
        rw [hd [] (by rw [hs]; simp), hsg]
      | cons r0 r =>
        simp only [joinS] at hs
        have hil : i < s.length := by rw [hs, hi]; simp
        have : s[i] = u8 c := by simp [hs, hi, List.getElem_append]
        refine .inr (.inr (.inl ⟨hil, by rw [this]; exact u8_nat hc, by omega, .inl ⟨pre ++ (a ++ [u8 c]), [], r0, r, by rw [hs]; simp, ?_, by rw [hi]; simp; omega, by rw [hi]; simp; omega⟩⟩))
        rw [hd (u8 c :: joinS c (r0 :: r)) hs, hsg]
        simp
  · exact .inr (.inr (.inr h))
theorem spl_o {c : Nat} {s : Str} {segs : List Str} {i from_ : Nat} {o : List Str} (h : Spl c s segs i from_ o) : o.length ≤ segs.length := by
  rcases h with ⟨_, _, _, _, _, h, _, _⟩ | ⟨h, _⟩
  · rw [h]; simp
  · rw [h]; exact Nat.le_refl _
theorem split132 (sg : Nat) (hc : sg < 256) (s : Str) (segs : List Str) (hs : s = joinS sg segs) (h0 : segs ≠ []) (hn : ∀ g ∈ segs, ∀ b ∈ g, b.toNat ≠ sg) (hl : s.length ≤ 1000) (hsl : segs.length ≤ 1000) : Fc T W 132 [.s s, (.i .u8 sg)] (dTexts segs) := by
  have hin : Spl sg s segs 0 0 [] := by
    cases segs with
    | nil => exact absurd rfl h0
    | cons a r => exact .inl ⟨[], [], a, r, by rw [hs]; rfl, rfl, rfl, rfl⟩
  refine Fc_intro (thr := thr) hmix Tryz.func132 rfl (by kernel_rfl) (by simp [Tryz.ntmps132]) ?_
  refine CW_reg fun K_ hK => ?_
  simp [wk, vk, ek, ok, lk, buildD, fillD, thr]
  refine hK _ ?_
  refine CW_reg fun K_ hK => ?_
  simp [wk, vk, ek, ok, lk, buildD, fillD, thr]
  refine hK _ ?_
  refine CW_reg fun K_ hK => ?_
  simp [wk, vk, ek, ok, lk, buildD, fillD, thr]
  refine hK _ ?_
  refine CW_seq1 ?_
  refine CW_reg fun K_ hK => ?_
  simp [wk, vk, ek, ok, lk, buildD, fillD, thr]
  refine hK _ ?_
  refine CW_for (fun j τ => ∃ (i from_ g : Nat) (o : List Str), j = s.length + 2 - i ∧ i ≤ s.length + 1 ∧ Spl sg s segs i from_ o ∧ τ.fr 0 = .s s ∧ τ.fr 1 = .i .u8 sg ∧ τ.fr 5 = oT g o ∧ (o ≠ [] → τ.tp 58 = some (g, o.length)) ∧ τ.fr 6 = .i .i64 from_ ∧ τ.fr 7 = .i .i64 i) (s.length + 2) ?_ ?_
  · exact ⟨0, 0, 0, [], rfl, by omega, hin, by simp [upd], by simp [upd], by simp [upd]; rfl, by simp, by simp [upd], by simp [upd]⟩
  · rintro j ⟨fr, bx, tp, c⟩ ⟨i, from_, g, o, rfl, hi, hsp, f0, f1, f5, htp, f6, f7⟩ K0 hN0 hX0 hR0 hJ0
    simp only at f0 f1 f5 htp f6 f7
    have hol : o.length ≤ 1000 := Nat.le_trans (spl_o hsp) hsl
    refine CW_seq1 ?_
    rcases spl_cases hsp hc hn with ⟨hil, hne, hsp2⟩ | ⟨hil, hfi, hsp2⟩ | ⟨hil, hne, hfi, hsp2⟩ | ⟨hoe, hil⟩
    · have x1 : (i : Int) ≤ (s.length : Int) := by omega
      have x2 : i ≤ s.length := by omega
      have x3 : ((i : Int) == (s.length : Int)) = false := by simp; omega
      have x5 : ((s[i].toNat : Int) == (sg : Int)) = false := by simp; omega
      have x6 : ¬ i = s.length := by omega
      refine CW_reg fun K_ hK => ?_
      simp [wk, vk, ek, ok, lk, buildD, fillD, thr, f0, f1, f5, f6, f7, x1, x2, x3, x5, x6, hil, hne]
      refine hK _ ?_
      refine CW_yes rfl ?_
      refine CW_sk ?_
      refine CW_seq1 ?_
      refine CW_blk fun K1 hn1 hx1 hr1 hj1 => ?_
      refine CW_reg fun K_ hK => ?_
      simp [wk, vk, ek, ok, lk, buildD, fillD, thr, f0, f1, f5, f6, f7, x1, x2, x3, x5, x6, hil, hne]
      refine hK _ ?_
      refine CW_no rfl ?_
      refine CW_sk ?_
      refine hn1 _ ?_
      refine CW_reg1 fun K_ hK => ?_
      simp [wk, vk, ek, ok, lk, buildD, fillD, thr, f0, f1, f5, f6, f7, x1, x2, x3, x5, x6, hil, hne]
      refine hK _ ?_
      refine hN0 (s.length + 2 - (i + 1)) _ (by omega) ⟨i + 1, from_, g, o, rfl, by omega, hsp2, by simp [upd, f0], by simp [upd, f1], by simp [upd, f5], fun h => htp h, by simp [upd, f6], ?_⟩
      simp [upd]; rw [w64 (by omega) (by omega)]
    · have hslc : sliceD T 9 (.s s) (some (.i .i64 (from_ : Int))) (some (.i .i64 (i : Int))) = some (.s ((s.take i).drop from_)) := sl9 _ _ _ from_ i (by simp [getI]) (by simp [getI]) (by omega)
      have x1 : (i : Int) ≤ (s.length : Int) := by omega
      have x2 : i ≤ s.length := by omega
      have x3 : ((i : Int) == (s.length : Int)) = true := by simp; omega
      refine CW_reg fun K_ hK => ?_
      simp [wk, vk, ek, ok, lk, buildD, fillD, thr, f0, f1, f5, f6, f7, x1, x2, x3, hslc]
      refine hK _ ?_
      refine CW_yes rfl ?_
      refine CW_sk ?_
      refine CW_seq1 ?_
      refine CW_blk fun K1 hn1 hx1 hr1 hj1 => ?_
      refine CW_reg fun K_ hK => ?_
      simp [wk, vk, ek, ok, lk, buildD, fillD, thr, f0, f1, f5, f6, f7, x1, x2, x3, hslc]
      refine hK _ ?_
      refine CW_yes rfl ?_
      refine CW_reg fun K_ hK => ?_
      simp [wk, vk, ek, ok, lk, buildD, fillD, thr, f0, f1, f5, f6, f7, x1, x2, x3, hslc]
      refine AppW_use (app_T o ((s.take i).drop from_) g htp (by omega)) ?_
      simp [wk, vk, ek, ok, lk, buildD, fillD, thr, f0, f1, f5, f6, f7, x1, x2, x3, hslc]
      refine hK _ ?_
      refine CW_reg1 fun K_ hK => ?_
      simp [wk, vk, ek, ok, lk, buildD, fillD, thr, f0, f1, f5, f6, f7, x1, x2, x3, hslc]
      refine hK _ ?_
      refine hn1 _ ?_
      refine CW_reg1 fun K_ hK => ?_
      simp [wk, vk, ek, ok, lk, buildD, fillD, thr, f0, f1, f5, f6, f7, x1, x2, x3, hslc]
      refine hK _ ?_
      refine hN0 (s.length + 2 - (i + 1)) _ (by omega) ⟨i + 1, i + 1, _, o ++ [(s.take i).drop from_], rfl, by omega, hsp2, by simp [upd, f0], by simp [upd, f1], by simp [upd]; rfl, fun _ => by simp [upd], by simp [upd]; rw [w64 (by omega) (by omega)], ?_⟩
      simp [upd]; rw [w64 (by omega) (by omega)]
    · have hslc : sliceD T 9 (.s s) (some (.i .i64 (from_ : Int))) (some (.i .i64 (i : Int))) = some (.s ((s.take i).drop from_)) := sl9 _ _ _ from_ i (by simp [getI]) (by simp [getI]) (by omega)
      have x1 : (i : Int) ≤ (s.length : Int) := by omega
      have x2 : i ≤ s.length := by omega
      have x3 : ((i : Int) == (s.length : Int)) = false := by simp; omega
      have x5 : ((s[i].toNat : Int) == (sg : Int)) = true := by simp; omega
      have x6 : ¬ i = s.length := by omega
      refine CW_reg fun K_ hK => ?_
      simp [wk, vk, ek, ok, lk, buildD, fillD, thr, f0, f1, f5, f6, f7, x1, x2, x3, x5, x6, hil, hslc]
      refine hK _ ?_
      refine CW_yes rfl ?_
      refine CW_sk ?_
      refine CW_seq1 ?_
      refine CW_blk fun K1 hn1 hx1 hr1 hj1 => ?_
      refine CW_reg fun K_ hK => ?_
      simp [wk, vk, ek, ok, lk, buildD, fillD, thr, f0, f1, f5, f6, f7, x1, x2, x3, x5, x6, hil, hslc]
      refine hK _ ?_
      refine CW_yes rfl ?_
      refine CW_reg fun K_ hK => ?_
      simp [wk, vk, ek, ok, lk, buildD, fillD, thr, f0, f1, f5, f6, f7, x1, x2, x3, x5, x6, hil, hslc]
      refine AppW_use (app_T o ((s.take i).drop from_) g htp (by omega)) ?_
      simp [wk, vk, ek, ok, lk, buildD, fillD, thr, f0, f1, f5, f6, f7, x1, x2, x3, x5, x6, hil, hslc]
      refine hK _ ?_
      refine CW_reg1 fun K_ hK => ?_
      simp [wk, vk, ek, ok, lk, buildD, fillD, thr, f0, f1, f5, f6, f7, x1, x2, x3, x5, x6, hil, hslc]
      refine hK _ ?_
      refine hn1 _ ?_
      refine CW_reg1 fun K_ hK => ?_
      simp [wk, vk, ek, ok, lk, buildD, fillD, thr, f0, f1, f5, f6, f7, x1, x2, x3, x5, x6, hil, hslc]
      refine hK _ ?_
      refine hN0 (s.length + 2 - (i + 1)) _ (by omega) ⟨i + 1, i + 1, _, o ++ [(s.take i).drop from_], rfl, by omega, hsp2, by simp [upd, f0], by simp [upd, f1], by simp [upd]; rfl, fun _ => by simp [upd], by simp [upd]; rw [w64 (by omega) (by omega)], ?_⟩
      simp [upd]; rw [w64 (by omega) (by omega)]
    · have x1 : ¬ (i : Int) ≤ (s.length : Int) := by omega
      have x2 : ¬ i ≤ s.length := by omega
      subst hoe
      refine CW_reg fun K_ hK => ?_
      simp [wk, vk, ek, ok, lk, buildD, fillD, thr, f0, f1, f5, f6, f7, x1, x2, f5]
      refine hK _ ?_
      refine CW_no rfl ?_
      refine CW_ex ?_
      refine hX0 _ ?_
      refine CW_reg fun K_ hK => ?_
      simp [wk, vk, ek, ok, lk, buildD, fillD, thr, f5]
      refine hK _ ?_
      refine CW_rt ?_
      refine ends_ret ?_
      simp [Tryz.results132, resD, resL, resD1, vk, wk, ok, lk, buildD, fillD, ek, f5]
def okB (b : UInt8) : Bool := (decide (97 ≤ b.toNat) && decide (b.toNat ≤ 122)) || (decide (48 ≤ b.toNat) && decide (b.toNat ≤ 57))
def wordB (w : Str) : Bool := w.all okB && decide (0 < w.length)
theorem wordB_false (l : Str) (i : Nat) (hil : i < l.length) (hok : okB l[i] = false) : wordB l = false := by
  have h : l.all okB = false := by rw [List.all_eq_false]; exact ⟨l[i], List.getElem_mem hil, by simp [hok]⟩
  simp [wordB, h]
theorem word133 (l : Str) (hl : l.length ≤ 1000) : Fc T W 133 [.s l] (.b (wordB l)) := by
  refine Fc_intro (thr := thr) hmix Tryz.func133 rfl (by kernel_rfl) (by simp [Tryz.ntmps133]) ?_
  refine CW_reg fun K_ hK => ?_
  simp [wk, vk, ek, ok, lk, buildD, fillD, thr]
  refine hK _ ?_
  refine CW_seq1 ?_
  refine CW_reg fun K_ hK => ?_
  simp [wk, vk, ek, ok, lk, buildD, fillD, thr]
  refine hK _ ?_
  refine CW_for (fun j τ => ∃ i : Nat, j = l.length - i ∧ (l.take i).all okB = true ∧ τ.fr 0 = .s l ∧ τ.fr 3 = .i .i64 i) (l.length) ?_ ?_
  · exact ⟨0, rfl, by simp, by simp [upd], by simp [upd]⟩
  · rintro j ⟨fr, bx, tp, c⟩ ⟨i, rfl, hall, f0, f3⟩ K0 hN0 hX0 hR0 hJ0
    simp only at f0 f3
    refine CW_seq1 ?_
    refine CW_reg fun K_ hK => ?_
    simp [wk, vk, ek, ok, lk, buildD, fillD, thr, f0, f3]
    refine hK _ ?_
    refine CW_cond rfl (fun hct7 => ?_) (fun hct7 => ?_)
    · have hil : i < l.length := by simpa [wk, vk, ek, ok, f0, f3] using hct7
      refine CW_sk ?_
      refine CW_seq1 ?_
      refine CW_blk fun K1 hn1 hx1 hr1 hj1 => ?_
      rcases (show l[i].toNat < 48 ∨ (48 ≤ l[i].toNat ∧ l[i].toNat ≤ 57) ∨ (57 < l[i].toNat ∧ l[i].toNat < 97) ∨ (97 ≤ l[i].toNat ∧ l[i].toNat ≤ 122) ∨ 122 < l[i].toNat by omega) with hb | ⟨hb, hb2⟩ | ⟨hb, hb2⟩ | ⟨hb, hb2⟩ | hb
      · have pn : ¬ (97 ≤ l[i].toNat) := by omega
        have pi : ¬ ((97 : Int) ≤ (l[i].toNat : Int)) := by omega
        have qn : (l[i].toNat ≤ 122) := by omega
        have qi : ((l[i].toNat : Int) ≤ 122) := by omega
        have rn : ¬ (48 ≤ l[i].toNat) := by omega
        have ri : ¬ ((48 : Int) ≤ (l[i].toNat : Int)) := by omega
        have sn : (l[i].toNat ≤ 57) := by omega
        have si : ((l[i].toNat : Int) ≤ 57) := by omega
        have hok : okB l[i] = false := by simp [okB, pn, qn, rn, sn]
        have hres := wordB_false l i hil hok
        refine CW_reg fun K_ hK => ?_
        simp [wk, vk, ek, ok, lk, buildD, fillD, thr, f0, f3, hil, pn, pi, qn, qi, rn, ri, sn, si]
        refine hK _ ?_
        refine CW_yes rfl ?_
        refine CW_reg fun K_ hK => ?_
        simp [wk, vk, ek, ok, lk, buildD, fillD, thr, f0, f3, hil, pn, pi, qn, qi, rn, ri, sn, si]
        refine hK _ ?_
        refine CW_rt ?_
        refine hr1 _ ?_
        refine hR0 _ ?_
        refine ends_ret ?_
        simp [Tryz.results133, resD, resL, resD1, vk, wk, ok, lk, ek, hres, f0, f3, hil, pn, pi, qn, qi, rn, ri, sn, si]
      · have pn : ¬ (97 ≤ l[i].toNat) := by omega
        have pi : ¬ ((97 : Int) ≤ (l[i].toNat : Int)) := by omega
        have qn : (l[i].toNat ≤ 122) := by omega
        have qi : ((l[i].toNat : Int) ≤ 122) := by omega
        have rn : (48 ≤ l[i].toNat) := by omega
        have ri : ((48 : Int) ≤ (l[i].toNat : Int)) := by omega
        have sn : (l[i].toNat ≤ 57) := by omega
        have si : ((l[i].toNat : Int) ≤ 57) := by omega
        have hok : okB l[i] = true := by simp [okB, pn, qn, rn, sn]
        refine CW_reg fun K_ hK => ?_
        simp [wk, vk, ek, ok, lk, buildD, fillD, thr, f0, f3, hil, pn, pi, qn, qi, rn, ri, sn, si]
        refine hK _ ?_
        refine CW_no rfl ?_
        refine CW_sk ?_
        refine hn1 _ ?_
        refine CW_reg1 fun K_ hK => ?_
        simp [wk, vk, ek, ok, lk, buildD, fillD, thr, f0, f3, hil, pn, pi, qn, qi, rn, ri, sn, si]
        refine hK _ ?_
        refine hN0 (l.length - (i + 1)) _ (by omega) ⟨i + 1, rfl, ?_, by simp [upd, f0], ?_⟩
        · rw [List.take_succ_eq_append_getElem hil, List.all_append, hall]; simp [hok]
        · simp [upd]; rw [w64 (by omega) (by omega)]
      · have pn : ¬ (97 ≤ l[i].toNat) := by omega
        have pi : ¬ ((97 : Int) ≤ (l[i].toNat : Int)) := by omega
        have qn : (l[i].toNat ≤ 122) := by omega
        have qi : ((l[i].toNat : Int) ≤ 122) := by omega
        have rn : (48 ≤ l[i].toNat) := by omega
        have ri : ((48 : Int) ≤ (l[i].toNat : Int)) := by omega
        have sn : ¬ (l[i].toNat ≤ 57) := by omega
        have si : ¬ ((l[i].toNat : Int) ≤ 57) := by omega
        have hok : okB l[i] = false := by simp [okB, pn, qn, rn, sn]
        have hres := wordB_false l i hil hok
        refine CW_reg fun K_ hK => ?_
        simp [wk, vk, ek, ok, lk, buildD, fillD, thr, f0, f3, hil, pn, pi, qn, qi, rn, ri, sn, si]
        refine hK _ ?_
        refine CW_yes rfl ?_
        refine CW_reg fun K_ hK => ?_
        simp [wk, vk, ek, ok, lk, buildD, fillD, thr, f0, f3, hil, pn, pi, qn, qi, rn, ri, sn, si]
        refine hK _ ?_
        refine CW_rt ?_
        refine hr1 _ ?_
        refine hR0 _ ?_
        refine ends_ret ?_
        simp [Tryz.results133, resD, resL, resD1, vk, wk, ok, lk, ek, hres, f0, f3, hil, pn, pi, qn, qi, rn, ri, sn, si]
      · have pn : (97 ≤ l[i].toNat) := by omega
        have pi : ((97 : Int) ≤ (l[i].toNat : Int)) := by omega
        have qn : (l[i].toNat ≤ 122) := by omega
        have qi : ((l[i].toNat : Int) ≤ 122) := by omega
        have rn : (48 ≤ l[i].toNat) := by omega
        have ri : ((48 : Int) ≤ (l[i].toNat : Int)) := by omega
        have sn : ¬ (l[i].toNat ≤ 57) := by omega
        have si : ¬ ((l[i].toNat : Int) ≤ 57) := by omega
        have hok : okB l[i] = true := by simp [okB, pn, qn, rn, sn]
        refine CW_reg fun K_ hK => ?_
        simp [wk, vk, ek, ok, lk, buildD, fillD, thr, f0, f3, hil, pn, pi, qn, qi, rn, ri, sn, si]
        refine hK _ ?_
        refine CW_no rfl ?_
        refine CW_sk ?_
        refine hn1 _ ?_
        refine CW_reg1 fun K_ hK => ?_
        simp [wk, vk, ek, ok, lk, buildD, fillD, thr, f0, f3, hil, pn, pi, qn, qi, rn, ri, sn, si]
        refine hK _ ?_
        refine hN0 (l.length - (i + 1)) _ (by omega) ⟨i + 1, rfl, ?_, by simp [upd, f0], ?_⟩
        · rw [List.take_succ_eq_append_getElem hil, List.all_append, hall]; simp [hok]
        · simp [upd]; rw [w64 (by omega) (by omega)]
      · have pn : (97 ≤ l[i].toNat) := by omega
        have pi : ((97 : Int) ≤ (l[i].toNat : Int)) := by omega
        have qn : ¬ (l[i].toNat ≤ 122) := by omega
        have qi : ¬ ((l[i].toNat : Int) ≤ 122) := by omega
        have rn : (48 ≤ l[i].toNat) := by omega
        have ri : ((48 : Int) ≤ (l[i].toNat : Int)) := by omega
        have sn : ¬ (l[i].toNat ≤ 57) := by omega
        have si : ¬ ((l[i].toNat : Int) ≤ 57) := by omega
        have hok : okB l[i] = false := by simp [okB, pn, qn, rn, sn]
        have hres := wordB_false l i hil hok
        refine CW_reg fun K_ hK => ?_
        simp [wk, vk, ek, ok, lk, buildD, fillD, thr, f0, f3, hil, pn, pi, qn, qi, rn, ri, sn, si]
        refine hK _ ?_
        refine CW_yes rfl ?_
        refine CW_reg fun K_ hK => ?_
        simp [wk, vk, ek, ok, lk, buildD, fillD, thr, f0, f3, hil, pn, pi, qn, qi, rn, ri, sn, si]
        refine hK _ ?_
        refine CW_rt ?_
        refine hr1 _ ?_
        refine hR0 _ ?_
        refine ends_ret ?_
        simp [Tryz.results133, resD, resL, resD1, vk, wk, ok, lk, ek, hres, f0, f3, hil, pn, pi, qn, qi, rn, ri, sn, si]
    · have hil : ¬ i < l.length := by simpa [wk, vk, ek, ok, f0, f3] using hct7
      rw [List.take_of_length_le (by omega)] at hall
      have hres : wordB l = decide (0 < l.length) := by simp [wordB, hall]
      refine CW_ex ?_
      refine hX0 _ ?_
      refine CW_reg fun K_ hK => ?_
      simp [wk, vk, ek, ok, lk, buildD, fillD, thr, f0]
      refine hK _ ?_
      refine CW_rt ?_
      refine ends_ret ?_
      simp [Tryz.results133, resD, resL, resD1, vk, wk, ok, lk, ek, hres, f0]
theorem right130 (s : Str) (hs : ∀ b ∈ s, 97 ≤ b.toNat ∧ b.toNat ≤ 122) (h0 : s ≠ []) (hl : s.length ≤ 30) : Fc T W 130 [.s s] (.b true) := by
  have hsp := split132 (W := W) 47 (by decide) s [s] rfl (by simp) (by intro g hg b hb; simp at hg; subst hg; have := hs b hb; omega) (by omega) (by simp)
  have hw : wordB s = true := by
    have : s.all okB = true := by rw [List.all_eq_true]; intro b hb; have := hs b hb; simp [okB]; omega
    have h1 : 0 < s.length := List.length_pos_iff.2 h0
    simp [wordB, this, h1]
  have hwd := word133 (W := W) s (by omega)
  rw [hw] at hwd
  have hx : indexD T 58 (dTexts [s]) (.i .i64 0) = some (.rp (.s s)) := ix_dT [s] .i64 0 (by simp)
  have hli : (s.length : Int) ≤ 30 := by omega
  refine Fc_intro (thr := thr) hmix Tryz.func130 rfl (by kernel_rfl) (by simp [Tryz.ntmps130]) ?_
  refine CW_reg fun K_ hK => ?_
  simp [wk, vk, ek, ok, lk, buildD, fillD, thr]
  refine hK _ ?_
  refine CW_reg fun K_ hK => ?_
  simp [wk, vk, ek, ok, lk, buildD, fillD, thr]
  refine CallW_use (hsp) ?_
  simp [wk, vk, ek, ok, lk, buildD, fillD, thr]
  refine hK _ ?_
  refine CW_seq1 ?_
  refine CW_reg fun K_ hK => ?_
  simp [wk, vk, ek, ok, lk, buildD, fillD, thr]
  refine hK _ ?_
  refine CW_for (fun j τ => ∃ i : Nat, j = 1 - i ∧ i ≤ 1 ∧ τ.fr 0 = .s s ∧ τ.fr 3 = dTexts [s] ∧ τ.fr 4 = .i .i64 i) (1) ?_ ?_
  · exact ⟨0, rfl, by omega, by simp [upd], by simp [upd], by simp [upd]⟩
  · rintro j ⟨fr, bx, tp, c⟩ ⟨i, rfl, hi, f0, f3, f4⟩ K0 hN0 hX0 hR0 hJ0
    simp only at f0 f3 f4
    refine CW_seq1 ?_
    refine CW_reg fun K_ hK => ?_
    simp [wk, vk, ek, ok, lk, buildD, fillD, thr, f0, f3, f4]
    refine hK _ ?_
    refine CW_cond rfl (fun hct10 => ?_) (fun hct10 => ?_)
    · have hil : (i : Int) < 1 := by simpa [wk, vk, ek, ok, f3, f4] using hct10
      obtain rfl : i = 0 := by omega
      refine CW_sk ?_
      refine CW_seq1 ?_
      refine CW_blk fun K1 hn1 hx1 hr1 hj1 => ?_
      refine CW_reg fun K_ hK => ?_
      simp [wk, vk, ek, ok, lk, buildD, fillD, thr, f0, f3, f4, hx]
      refine CallW_use (hwd) ?_
      simp [wk, vk, ek, ok, lk, buildD, fillD, thr, f0, f3, f4, hx]
      refine hK _ ?_
      refine CW_no rfl ?_
      refine CW_sk ?_
      refine hn1 _ ?_
      refine CW_reg1 fun K_ hK => ?_
      simp [wk, vk, ek, ok, lk, buildD, fillD, thr, f0, f3, f4]
      refine hK _ ?_
      refine hN0 (1 - (0 + 1)) _ (by omega) ⟨0 + 1, rfl, by omega, by simp [upd, f0], by simp [upd, f3], ?_⟩
      simp [upd]; rw [w64 (by omega) (by omega)]
    · refine CW_ex ?_
      refine hX0 _ ?_
      refine CW_reg fun K_ hK => ?_
      simp [wk, vk, ek, ok, lk, buildD, fillD, thr, f0]
      refine hK _ ?_
      refine CW_rt ?_
      refine ends_ret ?_
      simp [Tryz.results130, resD, resL, resD1, vk, wk, ok, lk, buildD, fillD, ek, hl, hli, f0]
theorem has131 (sg : Nat) (s : Str) (hs : ∀ b ∈ s, b.toNat ≠ sg) (hl : s.length ≤ 1000) : Fc T W 131 [.s s, .i .u8 sg] (.b false) := by
  refine Fc_intro (thr := thr) hmix Tryz.func131 rfl (by kernel_rfl) (by simp [Tryz.ntmps131]) ?_
  refine CW_reg fun K_ hK => ?_
  simp [wk, vk, ek, ok, lk, buildD, fillD, thr]
  refine hK _ ?_
  refine CW_seq1 ?_
  refine CW_reg fun K_ hK => ?_
  simp [wk, vk, ek, ok, lk, buildD, fillD, thr]
  refine hK _ ?_
  refine CW_for (fun j τ => ∃ i : Nat, j = s.length - i ∧ τ.fr 0 = .s s ∧ τ.fr 1 = .i .u8 sg ∧ τ.fr 5 = .i .i64 i) (s.length) ?_ ?_
  · exact ⟨0, rfl, by simp [upd], by simp [upd], by simp [upd]⟩
  · rintro j ⟨fr, bx, tp, c⟩ ⟨i, rfl, f0, f1, f5⟩ K0 hN0 hX0 hR0 hJ0
    simp only at f0 f1 f5
    refine CW_seq1 ?_
    refine CW_reg fun K_ hK => ?_
    simp [wk, vk, ek, ok, lk, buildD, fillD, thr, f0, f1, f5]
    refine hK _ ?_
    refine CW_cond rfl (fun hct9 => ?_) (fun hct9 => ?_)
    · have hil : i < s.length := by simpa [wk, vk, ek, ok, f0, f5] using hct9
      have hne := hs _ (List.getElem_mem hil)
      have hnb : ((s[i].toNat : Int) == (sg : Int)) = false := by simp; omega
      refine CW_sk ?_
      refine CW_seq1 ?_
      refine CW_blk fun K1 hn1 hx1 hr1 hj1 => ?_
      refine CW_reg fun K_ hK => ?_
      simp [wk, vk, ek, ok, lk, buildD, fillD, thr, f0, f1, f5, hil, hnb, hne]
      refine hK _ ?_
      refine CW_no rfl ?_
      refine CW_sk ?_
      refine hn1 _ ?_
      refine CW_reg1 fun K_ hK => ?_
      simp [wk, vk, ek, ok, lk, buildD, fillD, thr, f0, f1, f5, hil, hnb, hne]
      refine hK _ ?_
      refine hN0 (s.length - (i + 1)) _ (by omega) ⟨i + 1, rfl, by simp [upd, f0], by simp [upd, f1], ?_⟩
      simp [upd]; rw [w64 (by omega) (by omega)]
    · refine CW_ex ?_
      refine hX0 _ ?_
      refine CW_reg fun K_ hK => ?_
      simp [wk, vk, ek, ok, lk, buildD, fillD, thr]
      refine hK _ ?_
      refine CW_rt ?_
      refine ends_ret ?_
      simp [Tryz.results131, resD, resL, resD1, vk, wk, ok, lk, buildD, fillD, ek]
theorem name114 (s : Str) (hs : ∀ b ∈ s, 97 ≤ b.toNat ∧ b.toNat ≤ 122) (h0 : s ≠ []) (hl : s.length ≤ 20) : Fc T W 114 [.s s] (.b true) := by
  have hli : (s.length : Int) ≤ 20 := by omega
  refine Fc_intro (thr := thr) hmix Tryz.func114 rfl (by kernel_rfl) (by simp [Tryz.ntmps114]) ?_
  refine CW_reg fun K_ hK => ?_
  simp [wk, vk, ek, ok, lk, buildD, fillD, thr, hl, hli]
  refine hK _ ?_
  refine CW_reg fun K_ hK => ?_
  simp [wk, vk, ek, ok, lk, buildD, fillD, thr, hl, hli]
  refine CallW_use (right130 s hs h0 (by omega)) ?_
  simp [wk, vk, ek, ok, lk, buildD, fillD, thr, hl, hli]
  refine CallW_use (has131 47 s (by intro b hb; have := hs b hb; omega) (by omega)) ?_
  simp [wk, vk, ek, ok, lk, buildD, fillD, thr, hl, hli]
  refine hK _ ?_
  refine CW_rt ?_
  refine ends_ret ?_
  simp [Tryz.results114, resD, resL, resD1, vk, wk, ok, lk, buildD, fillD, ek, hl, hli]
theorem pattern115 (s : Str) (segs : List Str) (hs : s = joinS 47 segs) (h0 : segs ≠ []) (hn : ∀ g ∈ segs, ∀ b ∈ g, b.toNat ≠ 47) (hl : s.length ≤ 30) (hsl : segs.length ≤ 1000) (hgl : ∀ g ∈ segs, g.length ≤ 1000) (hp : ∀ i (h : i < segs.length), wordB segs[i] = true ∨ segs[i] = [43] ∨ (segs[i] = [35] ∧ i + 1 = segs.length)) : Fc T W 115 [.s s] (.b true) := by
  have hsp := split132 (W := W) 47 (by decide) s segs hs h0 hn (by omega) hsl
  have hli : (s.length : Int) ≤ 30 := by omega
  have w43 : wordB [43] = false := by decide
  have w35 : wordB [35] = false := by decide
  refine Fc_intro (thr := thr) hmix Tryz.func115 rfl (by kernel_rfl) (by simp [Tryz.ntmps115]) ?_
  refine CW_reg fun K_ hK => ?_
  simp [wk, vk, ek, ok, lk, buildD, fillD, thr]
  refine hK _ ?_
  refine CW_reg fun K_ hK => ?_
  simp [wk, vk, ek, ok, lk, buildD, fillD, thr]
  refine CallW_use (hsp) ?_
  simp [wk, vk, ek, ok, lk, buildD, fillD, thr]
  refine hK _ ?_
  refine CW_seq1 ?_
  refine CW_reg fun K_ hK => ?_
  simp [wk, vk, ek, ok, lk, buildD, fillD, thr]
  refine hK _ ?_
  refine CW_for (fun j τ => ∃ i : Nat, j = segs.length - i ∧ τ.fr 0 = .s s ∧ τ.fr 3 = dTexts segs ∧ τ.fr 4 = .i .i64 i) (segs.length) ?_ ?_
  · exact ⟨0, rfl, by simp [upd], by simp [upd], by simp [upd]⟩
  · rintro j ⟨fr, bx, tp, c⟩ ⟨i, rfl, f0, f3, f4⟩ K0 hN0 hX0 hR0 hJ0
    simp only at f0 f3 f4
    refine CW_seq1 ?_
    refine CW_reg fun K_ hK => ?_
    simp [wk, vk, ek, ok, lk, buildD, fillD, thr, f0, f3, f4]
    refine hK _ ?_
    refine CW_cond rfl (fun hct10 => ?_) (fun hct10 => ?_)
    · have hil : i < segs.length := by simpa [wk, vk, ek, ok, f3, f4] using hct10
      have hsl1 := hgl _ (List.getElem_mem hil)
      refine CW_sk ?_
      refine CW_seq1 ?_
      refine CW_blk fun K1 hn1 hx1 hr1 hj1 => ?_
      rcases hp i hil with hw | hE | ⟨hE, hlast⟩
      · have hd := hil
        refine CW_reg fun K_ hK => ?_
        simp [wk, vk, ek, ok, lk, buildD, fillD, thr, f0, f3, f4, hil, hw]
        refine CallW_use (word133 segs[i] hsl1) ?_
        simp [wk, vk, ek, ok, lk, buildD, fillD, thr, f0, f3, f4, hil, hw]
        refine hK _ ?_
        refine CW_no rfl ?_
        refine CW_sk ?_
        refine hn1 _ ?_
        refine CW_reg1 fun K_ hK => ?_
        simp [wk, vk, ek, ok, lk, buildD, fillD, thr, f0, f3, f4, hil, hw]
        refine hK _ ?_
        refine hN0 (segs.length - (i + 1)) _ (by omega) ⟨i + 1, rfl, by simp [upd, f0], by simp [upd, f3], ?_⟩
        simp [upd]; rw [w64 (by omega) (by omega)]
      · have hd := hil
        refine CW_reg fun K_ hK => ?_
        simp [wk, vk, ek, ok, lk, buildD, fillD, thr, f0, f3, f4, hil, hE, w43]
        refine CallW_use (word133 [43] (by simp)) ?_
        simp [wk, vk, ek, ok, lk, buildD, fillD, thr, f0, f3, f4, hil, hE, w43]
        refine hK _ ?_
        refine CW_no rfl ?_
        refine CW_sk ?_
        refine hn1 _ ?_
        refine CW_reg1 fun K_ hK => ?_
        simp [wk, vk, ek, ok, lk, buildD, fillD, thr, f0, f3, f4, hil, hE, w43]
        refine hK _ ?_
        refine hN0 (segs.length - (i + 1)) _ (by omega) ⟨i + 1, rfl, by simp [upd, f0], by simp [upd, f3], ?_⟩
        simp [upd]; rw [w64 (by omega) (by omega)]
      · have e1 : IntKind.i64.wrap ((segs.length : Int) - 1) = (i : Int) := by rw [w64 (by omega) (by omega)]; omega
        refine CW_reg fun K_ hK => ?_
        simp [wk, vk, ek, ok, lk, buildD, fillD, thr, f0, f3, f4, hil, hE, w35, e1]
        refine CallW_use (word133 [35] (by simp)) ?_
        simp [wk, vk, ek, ok, lk, buildD, fillD, thr, f0, f3, f4, hil, hE, w35, e1]
        refine hK _ ?_
        refine CW_no rfl ?_
        refine CW_sk ?_
        refine hn1 _ ?_
        refine CW_reg1 fun K_ hK => ?_
        simp [wk, vk, ek, ok, lk, buildD, fillD, thr, f0, f3, f4, hil, hE, w35, e1]
        refine hK _ ?_
        refine hN0 (segs.length - (i + 1)) _ (by omega) ⟨i + 1, rfl, by simp [upd, f0], by simp [upd, f3], ?_⟩
        simp [upd]; rw [w64 (by omega) (by omega)]
    · refine CW_ex ?_
      refine hX0 _ ?_
      refine CW_reg fun K_ hK => ?_
      simp [wk, vk, ek, ok, lk, buildD, fillD, thr, f0]
      refine hK _ ?_
      refine CW_rt ?_
      refine ends_ret ?_
      simp [Tryz.results115, resD, resL, resD1, vk, wk, ok, lk, buildD, fillD, ek, hl, hli, f0]
def lastK (l : List (Str × Str)) (i : Nat) : Str := ((l.take i).getLast?.map (·.1)).getD []
theorem lastK_succ (l : List (Str × Str)) (i : Nat) (h : i < l.length) : lastK l (i + 1) = l[i].1 := by
  unfold lastK
  rw [List.take_succ_eq_append_getElem h, List.getLast?_append]
  simp
def prS (p : Str × Str) : Str := joinS 61 [p.1, p.2]
theorem word_no (w : Str) (h : wordB w = true) (n : Nat) (hn : ¬ (97 ≤ n ∧ n ≤ 122) ∧ ¬ (48 ≤ n ∧ n ≤ 57)) : ∀ b ∈ w, b.toNat ≠ n := by
  intro b hb e
  unfold wordB at h
  rw [Bool.and_eq_true, List.all_eq_true] at h
  have := h.1 b hb
  simp [okB, e] at this
  omega
theorem pairs134e  : Fc T W 134 [.s []] (.tu [.nil, .b true]) := by
  refine Fc_intro (thr := thr) hmix Tryz.func134 rfl (by kernel_rfl) (by simp [Tryz.ntmps134]) ?_
  refine CW_reg fun K_ hK => ?_
  simp [wk, vk, ek, ok, lk, buildD, fillD, thr]
  refine hK _ ?_
  refine CW_seq1 ?_
  refine CW_reg fun K_ hK => ?_
  simp [wk, vk, ek, ok, lk, buildD, fillD, thr]
  refine hK _ ?_
  refine CW_yes rfl ?_
  refine CW_reg fun K_ hK => ?_
  simp [wk, vk, ek, ok, lk, buildD, fillD, thr]
  refine hK _ ?_
  refine CW_rt ?_
  refine ends_ret ?_
  simp [Tryz.results134, resD, resL, resD1, vk, wk, ok, lk, buildD, fillD, ek]
theorem pairs134 (s : Str) (prs : List (Str × Str)) (hs : s = joinS 44 (prs.map prS)) (hne : s ≠ []) (h0 : prs ≠ []) (hl : s.length ≤ 30) (hsl : prs.length ≤ 100) (hw : ∀ p ∈ prs, wordB p.1 = true ∧ wordB p.2 = true ∧ p.1.length ≤ 30 ∧ p.2.length ≤ 30) (hr : ∀ i (h : i < prs.length), Op.bytesLess prs[i].1 (lastK prs i) = false ∧ (prs[i].1 == lastK prs i) = false) : Fc T W 134 [.s s] (.tu [dTexts (prs.map prS), .b true]) := by
  have hsp := split132 (W := W) 44 (by decide) s (prs.map prS) hs (by simpa using h0) (by
    intro g hg b hb
    obtain ⟨p, hp, rfl⟩ := List.mem_map.1 hg
    have hwp := hw p hp
    simp only [prS, joinS, List.mem_append, List.mem_cons] at hb
    rcases hb with hb | rfl | hb
    · exact word_no _ hwp.1 44 (by omega) b hb
    · decide
    · exact word_no _ hwp.2.1 44 (by omega) b hb) (by omega) (by simp; omega)
  have hli : (s.length : Int) ≤ 30 := by omega
  have hne2 : s.isEmpty = false := by simpa using hne
  refine Fc_intro (thr := thr) hmix Tryz.func134 rfl (by kernel_rfl) (by simp [Tryz.ntmps134]) ?_
  refine CW_reg fun K_ hK => ?_
  simp [wk, vk, ek, ok, lk, buildD, fillD, thr, hne, hne2]
  refine hK _ ?_
  refine CW_seq1 ?_
  refine CW_reg fun K_ hK => ?_
  simp [wk, vk, ek, ok, lk, buildD, fillD, thr, hne, hne2]
  refine hK _ ?_
  refine CW_no rfl ?_
  refine CW_sk ?_
  refine CW_reg fun K_ hK => ?_
  simp [wk, vk, ek, ok, lk, buildD, fillD, thr, hne, hne2]
  refine CallW_use (hsp) ?_
  simp [wk, vk, ek, ok, lk, buildD, fillD, thr, hne, hne2]
  refine hK _ ?_
  refine CW_reg fun K_ hK => ?_
  simp [wk, vk, ek, ok, lk, buildD, fillD, thr, hne, hne2]
  refine hK _ ?_
  refine CW_seq1 ?_
  refine CW_reg fun K_ hK => ?_
  simp [wk, vk, ek, ok, lk, buildD, fillD, thr, hne, hne2]
  refine hK _ ?_
  refine CW_for (fun j τ => ∃ i : Nat, j = prs.length - i ∧ τ.fr 0 = .s s ∧ τ.fr 4 = dTexts (prs.map prS) ∧ τ.fr 5 = .s (lastK prs i) ∧ τ.fr 6 = .i .i64 i) (prs.length) ?_ ?_
  · exact ⟨0, rfl, by simp [upd], by simp [upd], by simp [upd]; rfl, by simp [upd]⟩
  · rintro j ⟨fr, bx, tp, c⟩ ⟨i, rfl, f0, f4, f5, f6⟩ K0 hN0 hX0 hR0 hJ0
    simp only at f0 f4 f5 f6
    refine CW_seq1 ?_
    refine CW_reg fun K_ hK => ?_
    simp [wk, vk, ek, ok, lk, buildD, fillD, thr, f0, f4, f5, f6]
    refine hK _ ?_
    refine CW_cond rfl (fun hct15 => ?_) (fun hct15 => ?_)
    · have hil : i < prs.length := by simpa [wk, vk, ek, ok, f4, f6] using hct15
      have hwp := hw _ (List.getElem_mem hil)
      obtain ⟨r1, r2⟩ := hr i hil
      have r3 : ¬ prs[i].1 = lastK prs i := by simpa using r2
      have hy0 : indexD T 58 (dTexts [prs[i].1, prs[i].2]) (.i .i64 0) = some (.rp (.s prs[i].1)) := ix_dT [prs[i].1, prs[i].2] .i64 0 (by simp)
      have hy1 : indexD T 58 (dTexts [prs[i].1, prs[i].2]) (.i .i64 1) = some (.rp (.s prs[i].2)) := ix_dT [prs[i].1, prs[i].2] .i64 1 (by simp)
      refine CW_sk ?_
      refine CW_seq1 ?_
      refine CW_blk fun K1 hn1 hx1 hr1 hj1 => ?_
      refine CW_reg fun K_ hK => ?_
      simp [wk, vk, ek, ok, lk, buildD, fillD, thr, f0, f4, f5, f6, hil, r1, r2, r3]
      refine CallW_use (split132 61 (by decide) (prS prs[i]) [prs[i].1, prs[i].2] rfl (by simp) (by intro g hg b hb; simp at hg; rcases hg with rfl | rfl; exact word_no _ hwp.1 61 (by omega) b hb; exact word_no _ hwp.2.1 61 (by omega) b hb) (by simp [prS, joinS]; omega) (by simp)) ?_
      simp [wk, vk, ek, ok, lk, buildD, fillD, thr, f0, f4, f5, f6, hil, r1, r2, r3]
      refine hK _ ?_
      refine CW_seq1 ?_
      refine CW_reg fun K_ hK => ?_
      simp [wk, vk, ek, ok, lk, buildD, fillD, thr, f0, f4, f5, f6, hil, r1, r2, r3, hy0, hy1]
      refine CallW_use (by have h := word133 (W := W) prs[i].1 (by omega); rw [hwp.1] at h; exact h) ?_
      simp [wk, vk, ek, ok, lk, buildD, fillD, thr, f0, f4, f5, f6, hil, r1, r2, r3, hy0, hy1]
      refine CallW_use (by have h := word133 (W := W) prs[i].2 (by omega); rw [hwp.2.1] at h; exact h) ?_
      simp [wk, vk, ek, ok, lk, buildD, fillD, thr, f0, f4, f5, f6, hil, r1, r2, r3, hy0, hy1]
      refine hK _ ?_
      refine CW_no rfl ?_
      refine CW_sk ?_
      refine CW_reg1 fun K_ hK => ?_
      simp [wk, vk, ek, ok, lk, buildD, fillD, thr, f0, f4, f5, f6, hil, r1, r2, r3, hy0]
      refine hK _ ?_
      refine hn1 _ ?_
      refine CW_reg1 fun K_ hK => ?_
      simp [wk, vk, ek, ok, lk, buildD, fillD, thr, f0, f4, f5, f6, hil, r1, r2, r3]
      refine hK _ ?_
      refine hN0 (prs.length - (i + 1)) _ (by omega) ⟨i + 1, rfl, by simp [upd, f0], by simp [upd, f4], by simp [upd, lastK_succ prs i hil], ?_⟩
      simp [upd]; rw [w64 (by omega) (by omega)]
    · refine CW_ex ?_
      refine hX0 _ ?_
      refine CW_reg fun K_ hK => ?_
      simp [wk, vk, ek, ok, lk, buildD, fillD, thr, f0, f4]
      refine hK _ ?_
      refine CW_rt ?_
      refine ends_ret ?_
      simp [Tryz.results134, resD, resL, resD1, vk, wk, ok, lk, buildD, fillD, ek, hl, hli, f0, f4]
theorem attrs116e  : Fc T W 116 [.s []] (.b true) := by
  refine Fc_intro (thr := thr) hmix Tryz.func116 rfl (by kernel_rfl) (by simp [Tryz.ntmps116]) ?_
  refine CW_reg fun K_ hK => ?_
  simp [wk, vk, ek, ok, lk, buildD, fillD, thr]
  refine hK _ ?_
  refine CW_reg fun K_ hK => ?_
  simp [wk, vk, ek, ok, lk, buildD, fillD, thr]
  refine CallW_use (pairs134e) ?_
  simp [wk, vk, ek, ok, lk, buildD, fillD, thr]
  refine hK _ ?_
  refine CW_reg fun K_ hK => ?_
  simp [wk, vk, ek, ok, lk, buildD, fillD, thr]
  refine hK _ ?_
  refine CW_rt ?_
  refine ends_ret ?_
  simp [Tryz.results116, resD, resL, resD1, vk, wk, ok, lk, buildD, fillD, ek]
theorem attrs116 (s : Str) (prs : List (Str × Str)) (hs : s = joinS 44 (prs.map prS)) (hne : s ≠ []) (h0 : prs ≠ []) (hl : s.length ≤ 30) (hsl : prs.length ≤ 100) (hw : ∀ p ∈ prs, wordB p.1 = true ∧ wordB p.2 = true ∧ p.1.length ≤ 30 ∧ p.2.length ≤ 30) (hr : ∀ i (h : i < prs.length), Op.bytesLess prs[i].1 (lastK prs i) = false ∧ (prs[i].1 == lastK prs i) = false) : Fc T W 116 [.s s] (.b true) := by
  refine Fc_intro (thr := thr) hmix Tryz.func116 rfl (by kernel_rfl) (by simp [Tryz.ntmps116]) ?_
  refine CW_reg fun K_ hK => ?_
  simp [wk, vk, ek, ok, lk, buildD, fillD, thr]
  refine hK _ ?_
  refine CW_reg fun K_ hK => ?_
  simp [wk, vk, ek, ok, lk, buildD, fillD, thr]
  refine CallW_use (pairs134 s prs hs hne h0 hl hsl hw hr) ?_
  simp [wk, vk, ek, ok, lk, buildD, fillD, thr]
  refine hK _ ?_
  refine CW_reg fun K_ hK => ?_
  simp [wk, vk, ek, ok, lk, buildD, fillD, thr]
  refine hK _ ?_
  refine CW_rt ?_
  refine ends_ret ?_
  simp [Tryz.results116, resD, resL, resD1, vk, wk, ok, lk, buildD, fillD, ek]
end Go.Proofs.YtobamidecbfgpaaGreatDoor
