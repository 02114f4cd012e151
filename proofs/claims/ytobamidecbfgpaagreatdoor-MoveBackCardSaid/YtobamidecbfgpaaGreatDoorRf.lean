/- The document over the shadow: routes, versions, values, numbers. No condition. -/
import Derived.Test.YtobamidecbfgpaaGreatDoorDe
namespace Go.Proofs.YtobamidecbfgpaaGreatDoor
open Go Go.Sh Go.RowKit
set_option linter.unusedVariables false
set_option linter.unusedSimpArgs false
set_option maxRecDepth 10000
variable {W : World}
structure Kr where
  v : Nat
  t : Nat
  id : Nat
  seq : Nat
  val : Str
def Kr.row (r : Kr) : Row := ⟨keyB r.v r.t r.id r.seq, r.val⟩
structure KrOK (r : Kr) : Prop where
  v : r.v < 10
  t : 97 ≤ r.t ∧ r.t ≤ 122
  id : r.id ≤ 9999
  seq : r.seq ≤ 9999
structure MixOK (m : Mix) : Prop where
  src : 1 ≤ m.src ∧ m.src ≤ 3
  to : 1 ≤ m.to ∧ m.to ≤ 3
  cur : m.cursor ≤ 9999
  way : (m.src = m.to ∧ m.cursor = 0 ∧ m.back = false) ∨ m.src = m.to + 1 ∨ m.to = m.src + 1
def routeV (m : Mix) (id : Nat) : Nat := if id ≤ m.cursor then m.to else m.src
def encV (v : Nat) (x : Sub) : List Row := if v = 1 then (kinds12 x).map (row12 x) else if v = 2 then (kinds13 x).map (row13 x) else (kinds14 x).map (row14 x)
theorem route29 (m : Mix) (id : Nat) : Fc T W 29 [dMix m, .i .i64 id] (.i .i64 (routeV m id)) := by
  refine Fc_intro (thr := thr) hmix Tryz.func29 rfl (by kernel_rfl) (by simp [Tryz.ntmps29]) ?_
  refine CW_reg fun K_ hK => ?_
  simp [wk, vk, ek, ok, lk, er_oK, er_dRows, buildD, fillD, thr, dMix]
  refine hK _ ?_
  refine CW_seq1 ?_
  refine CW_reg fun K_ hK => ?_
  simp [wk, vk, ek, ok, lk, er_oK, er_dRows, buildD, fillD, thr, dMix]
  refine hK _ ?_
  refine CW_cond rfl (fun hct8 => ?_) (fun hct8 => ?_)
  · have h : id ≤ m.cursor := by simpa [wk, vk, ek, dMix] using hct8
    refine CW_reg fun K_ hK => ?_
    simp [wk, vk, ek, ok, lk, er_oK, er_dRows, buildD, fillD, thr, dMix, h]
    refine hK _ ?_
    refine CW_rt ?_
    refine ends_ret ?_
    simp [Tryz.results29, resD, resL, resD1, vk, wk, ok, lk, er_oK, er_dRows, buildD, fillD, ek, routeV, dMix, h]
  · have h : ¬ id ≤ m.cursor := by simpa [wk, vk, ek, dMix] using hct8
    refine CW_sk ?_
    refine CW_reg fun K_ hK => ?_
    simp [wk, vk, ek, ok, lk, er_oK, er_dRows, buildD, fillD, thr, dMix, h]
    refine hK _ ?_
    refine CW_rt ?_
    refine ends_ret ?_
    simp [Tryz.results29, resD, resL, resD1, vk, wk, ok, lk, er_oK, er_dRows, buildD, fillD, ek, routeV, dMix, h]
theorem enc35 (L : Laid W) (v : Nat) (x : Sub) (hx : SubOK x) : Fc T W 35 [.i .i64 v, dSub x] (dRows (encV v x)) := by
  refine Fc_intro (thr := thr) hmix Tryz.func35 rfl (by kernel_rfl) (by simp [Tryz.ntmps35]) ?_
  refine CW_reg fun K_ hK => ?_
  simp [wk, vk, ek, ok, lk, er_oK, er_dRows, buildD, fillD, thr, dSub]
  refine hK _ ?_
  refine CW_seq1 ?_
  refine CW_reg fun K_ hK => ?_
  simp [wk, vk, ek, ok, lk, er_oK, er_dRows, buildD, fillD, thr, dSub]
  refine hK _ ?_
  refine CW_cond rfl (fun hct6 => ?_) (fun hct6 => ?_)
  · have hq : (v : Int) = 1 := by simpa [wk, vk, ek] using hct6
    obtain rfl : v = 1 := by omega
    refine CW_reg fun K_ hK => ?_
    simp [wk, vk, ek, ok, lk, er_oK, er_dRows, buildD, fillD, thr, dSub]
    refine CallW_use (enc50 L x hx) ?_
    simp [wk, vk, ek, ok, lk, er_oK, er_dRows, buildD, fillD, thr, dSub]
    refine hK _ ?_
    refine CW_rt ?_
    refine ends_ret ?_
    simp [Tryz.results35, resD, resL, resD1, vk, wk, ok, lk, er_oK, er_dRows, buildD, fillD, ek, encV, dSub]
  · have hq1 : ¬ (v : Int) = 1 := by simpa [wk, vk, ek] using hct6
    have hn1 : ¬ v = 1 := by omega
    refine CW_sk ?_
    refine CW_seq1 ?_
    refine CW_reg fun K_ hK => ?_
    simp [wk, vk, ek, ok, lk, er_oK, er_dRows, buildD, fillD, thr, dSub, hn1]
    refine hK _ ?_
    refine CW_cond rfl (fun hct10 => ?_) (fun hct10 => ?_)
    · have hq : (v : Int) = 2 := by simpa [wk, vk, ek] using hct10
      obtain rfl : v = 2 := by omega
      refine CW_reg fun K_ hK => ?_
      simp [wk, vk, ek, ok, lk, er_oK, er_dRows, buildD, fillD, thr, dSub, hn1]
      refine CallW_use (enc51 L x hx) ?_
      simp [wk, vk, ek, ok, lk, er_oK, er_dRows, buildD, fillD, thr, dSub, hn1]
      refine hK _ ?_
      refine CW_rt ?_
      refine ends_ret ?_
      simp [Tryz.results35, resD, resL, resD1, vk, wk, ok, lk, er_oK, er_dRows, buildD, fillD, ek, encV, dSub, hn1]
    · have hq2 : ¬ (v : Int) = 2 := by simpa [wk, vk, ek] using hct10
      have hn2 : ¬ v = 2 := by omega
      refine CW_sk ?_
      refine CW_reg fun K_ hK => ?_
      simp [wk, vk, ek, ok, lk, er_oK, er_dRows, buildD, fillD, thr, dSub, hn1, hn2]
      refine CallW_use (enc52 L x hx) ?_
      simp [wk, vk, ek, ok, lk, er_oK, er_dRows, buildD, fillD, thr, dSub, hn1, hn2]
      refine hK _ ?_
      refine CW_rt ?_
      refine ends_ret ?_
      simp [Tryz.results35, resD, resL, resD1, vk, wk, ok, lk, er_oK, er_dRows, buildD, fillD, ek, encV, dSub, hn1, hn2]
theorem dec28 (L : Laid W) (v : Nat) (x : Sub) (hx : SubOK x) (hv : 1 ≤ v ∧ v ≤ 3) (l : List Row) (hl : l = encV v x) (hr : Rising (encV v x)) : Fc T W 28 [.i .i64 v, dRows l] (.tu [dSub x, .i .i64 0]) := by
  subst hl
  refine Fc_intro (thr := thr) hmix Tryz.func28 rfl (by kernel_rfl) (by simp [Tryz.ntmps28]) ?_
  refine CW_reg fun K_ hK => ?_
  simp [wk, vk, ek, ok, lk, er_oK, er_dRows, buildD, fillD, thr, dSub]
  refine hK _ ?_
  refine CW_seq1 ?_
  refine CW_reg fun K_ hK => ?_
  simp [wk, vk, ek, ok, lk, er_oK, er_dRows, buildD, fillD, thr, dSub]
  refine hK _ ?_
  refine CW_cond rfl (fun hct7 => ?_) (fun hct7 => ?_)
  · have hq : (v : Int) = 1 := by simpa [wk, vk, ek] using hct7
    obtain rfl : v = 1 := by omega
    refine CW_reg fun K_ hK => ?_
    simp [wk, vk, ek, ok, lk, er_oK, er_dRows, buildD, fillD, thr, dSub]
    refine CallW_use (dec43 L x hx hr) ?_
    simp [wk, vk, ek, ok, lk, er_oK, er_dRows, buildD, fillD, thr, dSub]
    refine hK _ ?_
    refine CW_rt ?_
    refine ends_ret ?_
    simp [Tryz.results28, resD, resL, resD1, vk, wk, ok, lk, er_oK, er_dRows, buildD, fillD, ek, dSub]
  · have hq1 : ¬ (v : Int) = 1 := by simpa [wk, vk, ek] using hct7
    have hn1 : ¬ v = 1 := by omega
    refine CW_sk ?_
    refine CW_seq1 ?_
    refine CW_reg fun K_ hK => ?_
    simp [wk, vk, ek, ok, lk, er_oK, er_dRows, buildD, fillD, thr, dSub, hn1]
    refine hK _ ?_
    refine CW_cond rfl (fun hct13 => ?_) (fun hct13 => ?_)
    · have hq : (v : Int) = 2 := by simpa [wk, vk, ek] using hct13
      obtain rfl : v = 2 := by omega
      refine CW_reg fun K_ hK => ?_
      simp [wk, vk, ek, ok, lk, er_oK, er_dRows, buildD, fillD, thr, dSub, hn1]
      refine CallW_use (dec44 L x hx (by simpa [encV] using hr)) ?_
      simp [wk, vk, ek, ok, lk, er_oK, er_dRows, buildD, fillD, thr, dSub, hn1]
      refine hK _ ?_
      refine CW_rt ?_
      refine ends_ret ?_
      simp [Tryz.results28, resD, resL, resD1, vk, wk, ok, lk, er_oK, er_dRows, buildD, fillD, ek, dSub, hn1]
    · have hq2 : ¬ (v : Int) = 2 := by simpa [wk, vk, ek] using hct13
      have hn2 : ¬ v = 2 := by omega
      refine CW_sk ?_
      refine CW_reg fun K_ hK => ?_
      simp [wk, vk, ek, ok, lk, er_oK, er_dRows, buildD, fillD, thr, dSub, hn1, hn2]
      have h14 : encV v x = (kinds14 x).map (row14 x) := by simp [encV, hn1, hn2]
      rw [h14] at hr
      rw [h14]
      refine CallW_use (dec45 L x hx hr) ?_
      simp [wk, vk, ek, ok, lk, er_oK, er_dRows, buildD, fillD, thr, dSub, hn1, hn2]
      refine hK _ ?_
      refine CW_rt ?_
      refine ends_ret ?_
      simp [Tryz.results28, resD, resL, resD1, vk, wk, ok, lk, er_oK, er_dRows, buildD, fillD, ek, dSub, hn1, hn2]
theorem value40 (l : List Row) (hl : l.length ≤ 100000) (key val : Str) (he : ∃ r ∈ l, r.key = key) (hu : ∀ r ∈ l, r.key = key → r.val = val) : Fc T W 40 [dRows l, .s key] (.tu [dBytes val, .b true]) := by
  refine Fc_intro (thr := thr) hmix Tryz.func40 rfl (by kernel_rfl) (by simp [Tryz.ntmps40]) ?_
  refine CW_reg fun K_ hK => ?_
  simp [wk, vk, ek, ok, lk, er_oK, er_dRows, buildD, fillD, thr]
  refine hK _ ?_
  refine CW_seq1 ?_
  refine CW_reg fun K_ hK => ?_
  simp [wk, vk, ek, ok, lk, er_oK, er_dRows, buildD, fillD, thr]
  refine hK _ ?_
  refine CW_for (fun j τ => ∃ i : Nat, j = l.length - i ∧ (∃ r ∈ l.drop i, r.key = key) ∧ τ.fr 0 = dRows l ∧ τ.fr 1 = .s key ∧ τ.fr 6 = .i .i64 i) (l.length) ?_ ?_
  · exact ⟨0, rfl, he, by simp [upd], by simp [upd], by simp [upd]⟩
  · rintro j ⟨fr, bx, tp, c⟩ ⟨i, rfl, hex, f0, f1, f6⟩ K0 hN0 hX0 hR0 hJ0
    simp only at f0 f1 f6
    refine CW_seq1 ?_
    refine CW_reg fun K_ hK => ?_
    simp [wk, vk, ek, ok, lk, er_oK, er_dRows, buildD, fillD, thr, f0, f1, f6]
    refine hK _ ?_
    refine CW_cond rfl (fun hct10 => ?_) (fun hct10 => ?_)
    · have hil : i < l.length := by simpa [wk, vk, ek, ok, f0, f6] using hct10
      refine CW_sk ?_
      refine CW_seq1 ?_
      refine CW_blk fun K1 hn1 hx1 hr1 hj1 => ?_
      refine CW_reg fun K_ hK => ?_
      simp [wk, vk, ek, ok, lk, er_oK, er_dRows, buildD, fillD, thr, f0, f1, f6, hil, dRow]
      refine hK _ ?_
      refine CW_cond rfl (fun hct19 => ?_) (fun hct19 => ?_)
      · have hke : l[i].key = key := by simpa [wk, vk, ek, ok, f1, dRow] using hct19
        have hve := hu _ (List.getElem_mem hil) hke
        refine CW_reg fun K_ hK => ?_
        simp [wk, vk, ek, ok, lk, er_oK, er_dRows, buildD, fillD, thr, f0, f1, f6, hil, dRow, hve]
        refine hK _ ?_
        refine CW_rt ?_
        refine hr1 _ ?_
        refine hR0 _ ?_
        refine ends_ret ?_
        simp [Tryz.results40, resD, resL, resD1, vk, wk, ok, lk, er_oK, er_dRows, buildD, fillD, ek, f0, f1, f6, hil, dRow, hve]
      · have hne : ¬ l[i].key = key := by simpa [wk, vk, ek, ok, f1, dRow] using hct19
        refine CW_sk ?_
        refine hn1 _ ?_
        refine CW_reg1 fun K_ hK => ?_
        simp [wk, vk, ek, ok, lk, er_oK, er_dRows, buildD, fillD, thr, f0, f1, f6, hil, dRow]
        refine hK _ ?_
        refine hN0 (l.length - (i + 1)) _ (by omega) ⟨i + 1, rfl, ?_, by simp [upd, f0], by simp [upd, f1], ?_⟩
        · obtain ⟨r, hr, hk⟩ := hex
          rw [List.drop_eq_getElem_cons hil] at hr
          rcases List.mem_cons.1 hr with rfl | hr
          · exact absurd hk hne
          · exact ⟨r, hr, hk⟩
        · simp [upd]; rw [w64 (by omega) (by omega)]
    · have hil : ¬ i < l.length := by simpa [wk, vk, ek, ok, f0, f6] using hct10
      rw [List.drop_of_length_le (by omega)] at hex
      exact absurd hex (by simp)
theorem numbers41 (l : List Nat) (hb : ∀ a ∈ l, a ≤ 9999) (hn : l.length ≤ 20) : Fc T W 41 [dBytes (numsB l), .i .i64 l.length] (.tu [dInts l, .b true]) := by
  have hB := numsB_len l hb
  obtain ⟨B, hBe⟩ : ∃ B, B = numsB l := ⟨_, rfl⟩
  rw [← hBe] at hB ⊢
  refine Fc_intro (thr := thr) hmix Tryz.func41 rfl (by kernel_rfl) (by simp [Tryz.ntmps41]) ?_
  refine CW_reg fun K_ hK => ?_
  simp [wk, vk, ek, ok, lk, er_oK, er_dRows, buildD, fillD, thr]
  refine hK _ ?_
  refine CW_reg fun K_ hK => ?_
  simp [wk, vk, ek, ok, lk, er_oK, er_dRows, buildD, fillD, thr]
  refine hK _ ?_
  refine CW_reg fun K_ hK => ?_
  simp [wk, vk, ek, ok, lk, er_oK, er_dRows, buildD, fillD, thr]
  refine hK _ ?_
  refine CW_seq1 ?_
  refine CW_reg fun K_ hK => ?_
  simp [wk, vk, ek, ok, lk, er_oK, er_dRows, buildD, fillD, thr]
  refine hK _ ?_
  refine CW_for (fun j τ => ∃ (i k g : Nat) (pre : Str), j = l.length - i ∧ i ≤ l.length ∧ B = pre ++ numsB (l.drop i) ∧ k = pre.length ∧ τ.fr 0 = dBytes B ∧ τ.fr 1 = .i .i64 l.length ∧ τ.fr 7 = .i .i64 k ∧ τ.fr 6 = oI g (l.take i) ∧ (l.take i ≠ [] → τ.tp 41 = some (g, (l.take i).length)) ∧ τ.fr 8 = .i .i64 i) (l.length) ?_ ?_
  · exact ⟨0, 0, 0, [], rfl, by omega, hBe, rfl, by simp [upd], by simp [upd], by simp [upd], by simp [upd]; rfl, by simp, by simp [upd]⟩
  · rintro j ⟨fr, bx, tp, c⟩ ⟨i, k, g, pre, rfl, hi, hB1, hk, f0, f1, f7, f6, htp, f8⟩ K0 hN0 hX0 hR0 hJ0
    simp only at f0 f1 f7 f6 htp f8
    refine CW_seq1 ?_
    refine CW_reg fun K_ hK => ?_
    simp [wk, vk, ek, ok, lk, er_oK, er_dRows, buildD, fillD, thr, f0, f1, f7, f6, f8]
    refine hK _ ?_
    refine CW_cond rfl (fun hct14 => ?_) (fun hct14 => ?_)
    · have hil : i < l.length := by simpa [wk, vk, ek, ok, f1, f8] using hct14
      have hle := hb _ (List.getElem_mem hil)
      have hB2 := hB1
      rw [List.drop_eq_getElem_cons hil] at hB2
      obtain ⟨k2, hk2⟩ : ∃ k2, k2 = k + (numB l[i]).length := ⟨_, rfl⟩
      refine CW_sk ?_
      refine CW_seq1 ?_
      refine CW_blk fun K1 hn1 hx1 hr1 hj1 => ?_
      refine CW_reg fun K_ hK => ?_
      simp [wk, vk, ek, ok, lk, er_oK, er_dRows, buildD, fillD, thr, f0, f1, f7, f6, f8, hil]
      refine CallW_use (by have h := getNum_ok (W := W) pre (numsB (l.drop (i + 1))) l[i] (by omega) B hB2 (by omega); rw [← hk, ← hk2] at h; exact h) ?_
      simp [wk, vk, ek, ok, lk, er_oK, er_dRows, buildD, fillD, thr, f0, f1, f7, f6, f8, hil]
      refine hK _ ?_
      refine CW_seq1 ?_
      refine CW_reg fun K_ hK => ?_
      simp [wk, vk, ek, ok, lk, er_oK, er_dRows, buildD, fillD, thr, f0, f1, f7, f6, f8, hil]
      refine hK _ ?_
      refine CW_no rfl ?_
      refine CW_sk ?_
      refine CW_reg fun K_ hK => ?_
      simp [wk, vk, ek, ok, lk, er_oK, er_dRows, buildD, fillD, thr, f0, f1, f7, f6, f8, hil]
      refine AppW_use (app_I _ l[i] _ htp (by simp; omega)) ?_
      simp [wk, vk, ek, ok, lk, er_oK, er_dRows, buildD, fillD, thr, f0, f1, f7, f6, f8, hil]
      refine hK _ ?_
      refine CW_reg1 fun K_ hK => ?_
      simp [wk, vk, ek, ok, lk, er_oK, er_dRows, buildD, fillD, thr, f0, f1, f7, f6, f8, hil]
      refine hK _ ?_
      refine hn1 _ ?_
      refine CW_reg1 fun K_ hK => ?_
      simp [wk, vk, ek, ok, lk, er_oK, er_dRows, buildD, fillD, thr, f0, f1, f7, f6, f8, hil]
      refine hK _ ?_
      refine hN0 (l.length - (i + 1)) _ (by omega) ⟨i + 1, k2, _, pre ++ numB l[i], rfl, by omega, ?_, by simp [hk2, hk], by simp [upd, f0], by simp [upd, f1], by simp [upd], by simp [upd]; rfl, fun _ => by simp [upd]; omega, ?_⟩
      · rw [hB2, List.append_assoc]; rfl
      · simp [upd]; rw [w64 (by omega) (by omega)]
    · have hil : ¬ i < l.length := by simpa [wk, vk, ek, ok, f1, f8] using hct14
      rw [List.take_of_length_le (by omega)] at f6
      have hkB : k = B.length := by rw [hB1, List.drop_of_length_le (by omega)]; simpa [numsB] using hk
      refine CW_ex ?_
      refine hX0 _ ?_
      refine CW_reg fun K_ hK => ?_
      simp [wk, vk, ek, ok, lk, er_oK, er_dRows, buildD, fillD, thr, f0, f6, f7, hkB, dBytes, lenm22]
      refine hK _ ?_
      refine CW_rt ?_
      refine ends_ret ?_
      simp [Tryz.results41, resD, resL, resD1, vk, wk, ok, lk, er_oK, er_dRows, buildD, fillD, ek, f0, f6, f7, hkB, dBytes, lenm22]
def woS (id : Nat) (l : List Sub) : List Sub := l.filter fun y => y.id != id
def insS (x : Sub) : List Sub → List Sub
  | [] => [x]
  | y :: r => if x.id < y.id then x :: y :: r else y :: insS x r
def putS (s : Sta) (x : Sub) : Sta := { s with subs := insS x (woS x.id s.subs) }
theorem woS_len (id : Nat) (l : List Sub) : (woS id l).length ≤ l.length := List.length_filter_le _ _
theorem woS_take (id : Nat) (l : List Sub) (i : Nat) (h : i < l.length) : woS id (l.take (i + 1)) = woS id (l.take i) ++ (if l[i].id = id then [] else [l[i]]) := by
  rw [List.take_succ_eq_append_getElem h, woS, List.filter_append]
  congr 1
  by_cases e : l[i].id = id <;> simp [e]
theorem without21 (s : Sta) (id : Nat) (hl : s.subs.length ≤ 1000) : Fc T W 21 [dSta s, .i .i64 id] (dSta { s with subs := woS id s.subs }) := by
  refine Fc_intro (thr := thr) hmix Tryz.func21 rfl (by kernel_rfl) (by simp [Tryz.ntmps21]) ?_
  refine CW_reg fun K_ hK => ?_
  simp [wk, vk, ek, ok, lk, er_oK, er_dRows, buildD, fillD, thr, dSta]
  refine hK _ ?_
  refine CW_reg fun K_ hK => ?_
  simp [wk, vk, ek, ok, lk, er_oK, er_dRows, buildD, fillD, thr, dSta]
  refine hK _ ?_
  refine CW_seq1 ?_
  refine CW_reg fun K_ hK => ?_
  simp [wk, vk, ek, ok, lk, er_oK, er_dRows, buildD, fillD, thr, dSta]
  refine hK _ ?_
  refine CW_for (fun j τ => ∃ (i g : Nat) (o : List Sub), j = s.subs.length - i ∧ i ≤ s.subs.length ∧ o = woS id (s.subs.take i) ∧ τ.fr 1 = .i .i64 id ∧ τ.fr 2 = .p 2 0 0 ∧ τ.bx 2 0 = some (dSta s) ∧ τ.fr 4 = .p 4 1 0 ∧ τ.bx 4 1 = some (dSta ⟨0, 0, 0, []⟩) ∧ τ.fr 5 = oS g o ∧ (o ≠ [] → τ.tp 23 = some (g, o.length)) ∧ τ.fr 6 = .i .i64 i) (s.subs.length) ?_ ?_
  · exact ⟨0, 0, [], rfl, by omega, rfl, by simp [upd], by simp [upd], by simp [upd2, dSta], by simp [upd], by simp [upd2]; rfl, by simp [upd]; rfl, by simp, by simp [upd]⟩
  · rintro j ⟨fr, bx, tp, c⟩ ⟨i, g, o, rfl, hi, ho, f1, f2, b2, f4, b4, f5, htp, f6⟩ K0 hN0 hX0 hR0 hJ0
    simp only at f1 f2 b2 f4 b4 f5 htp f6
    have b2b := b2
    have b4b := b4
    rw [dSta] at b2 b4
    have hol : o.length ≤ 1000 := by rw [ho]; exact Nat.le_trans (woS_len _ _) (by simp; omega)
    refine CW_seq1 ?_
    refine CW_reg fun K_ hK => ?_
    simp [wk, vk, ek, ok, lk, er_oK, er_dRows, buildD, fillD, thr, f1, f2, b2, f4, b4, f5, f6]
    refine hK _ ?_
    refine CW_cond rfl (fun hct11 => ?_) (fun hct11 => ?_)
    · have hil : i < s.subs.length := by simpa [wk, vk, ek, ok, f2, b2, f6] using hct11
      have ht := woS_take id s.subs i hil
      refine CW_sk ?_
      refine CW_seq1 ?_
      refine CW_blk fun K1 hn1 hx1 hr1 hj1 => ?_
      refine CW_reg fun K_ hK => ?_
      simp [wk, vk, ek, ok, lk, er_oK, er_dRows, buildD, fillD, thr, f1, f2, b2, f4, b4, f5, f6, hil, dSub]
      refine hK _ ?_
      refine CW_cond rfl (fun hct21 => ?_) (fun hct21 => ?_)
      · have hq : ¬ (s.subs[i].id : Int) = (id : Int) := by simpa [wk, vk, ek, ok, dSub, f1] using hct21
        have hne : ¬ s.subs[i].id = id := by omega
        rw [if_neg hne] at ht
        refine CW_reg1 fun K_ hK => ?_
        simp [wk, vk, ek, ok, lk, er_oK, er_dRows, buildD, fillD, thr, f1, f2, b2, f4, b4, f5, f6, hil, isAg_sub, clen_sub]
        refine AppW_use (app_S o s.subs[i] g htp (by omega)) ?_
        simp [wk, vk, ek, ok, lk, er_oK, er_dRows, buildD, fillD, thr, f1, f2, b2, f4, b4, f5, f6, hil, isAg_sub, clen_sub]
        refine hK _ ?_
        refine hn1 _ ?_
        refine CW_reg1 fun K_ hK => ?_
        simp [wk, vk, ek, ok, lk, er_oK, er_dRows, buildD, fillD, thr, f1, f2, b2, f4, b4, f5, f6, hil]
        refine hK _ ?_
        refine hN0 (s.subs.length - (i + 1)) _ (by omega) ⟨i + 1, _, o ++ [s.subs[i]], rfl, by omega, by rw [ht, ho], by simp [upd, f1], by simp [upd, f2], by simp [upd2, b2, dSta], by simp [upd, f4], by simp [upd2, b4, dSta], by simp [upd]; rfl, fun _ => by simp [upd], ?_⟩
        simp [upd]; rw [w64 (by omega) (by omega)]
      · have hq : (s.subs[i].id : Int) = (id : Int) := by simpa [wk, vk, ek, ok, dSub, f1] using hct21
        have hne : s.subs[i].id = id := by omega
        rw [if_pos hne] at ht
        refine CW_sk ?_
        refine hn1 _ ?_
        refine CW_reg1 fun K_ hK => ?_
        simp [wk, vk, ek, ok, lk, er_oK, er_dRows, buildD, fillD, thr, f1, f2, b2, f4, b4, f5, f6, hil]
        refine hK _ ?_
        refine hN0 (s.subs.length - (i + 1)) _ (by omega) ⟨i + 1, g, o, rfl, by omega, by rw [ht, ho, List.append_nil], by simp [upd, f1], by simp [upd, f2], by simp [upd2, b2, dSta], by simp [upd, f4], by simp [upd2, b4, dSta], by simp [upd, f5], fun h => htp h, ?_⟩
        simp [upd]; rw [w64 (by omega) (by omega)]
    · have hil : ¬ i < s.subs.length := by simpa [wk, vk, ek, ok, f2, b2, f6] using hct11
      rw [List.take_of_length_le (by omega)] at ho
      refine CW_ex ?_
      refine hX0 _ ?_
      refine CW_reg fun K_ hK => ?_
      simp [wk, vk, ek, ok, lk, er_oK, er_dRows, buildD, fillD, thr, f1, f2, b2, f4, b4, f5]
      refine hK _ ?_
      refine CW_reg fun K_ hK => ?_
      simp [wk, vk, ek, ok, lk, er_oK, er_dRows, buildD, fillD, thr, f1, f2, b2, f4, b4, f5]
      refine hK _ ?_
      refine CW_rt ?_
      refine ends_ret ?_
      simp [Tryz.results21, resD, resL, resD1, vk, wk, ok, lk, er_oK, er_dRows, buildD, fillD, ek, ho, dSta, f1, f2, b2, f4, b4, f5]
theorem right26 (m : Mix) (hm : MixOK m) : Fc T W 26 [dMix m] (.b true) := by
  obtain ⟨⟨a1, a2⟩, ⟨b1, b2⟩, cu, way⟩ := hm
  have x1 : ¬ (m.src : Int) < 1 := by omega
  have x2 : ¬ (3 : Int) < (m.src : Int) := by omega
  have x3 : ¬ (m.to : Int) < 1 := by omega
  have x4 : ¬ (3 : Int) < (m.to : Int) := by omega
  have y1 : ¬ m.src < 1 := by omega
  have y2 : ¬ 3 < m.src := by omega
  have y3 : ¬ m.to < 1 := by omega
  have y4 : ¬ 3 < m.to := by omega
  have z1 : ¬ m.src = 0 := by omega
  have z3 : ¬ m.to = 0 := by omega
  have c1 : (m.cursor : Int) ≤ 1073741824 := by omega
  have c2 : m.cursor ≤ 1073741824 := by omega
  have c3 : (0 : Int) ≤ (m.cursor : Int) := by omega
  refine Fc_intro (thr := thr) hmix Tryz.func26 rfl (by kernel_rfl) (by simp [Tryz.ntmps26]) ?_
  refine CW_reg fun K_ hK => ?_
  simp [wk, vk, ek, ok, lk, er_oK, er_dRows, buildD, fillD, thr, dMix]
  refine hK _ ?_
  refine CW_seq1 ?_
  refine CW_reg fun K_ hK => ?_
  simp [wk, vk, ek, ok, lk, er_oK, er_dRows, buildD, fillD, thr, dMix, x1, x2, x3, x4, y1, y2, y3, y4, z1, z3]
  refine hK _ ?_
  refine CW_no rfl ?_
  refine CW_sk ?_
  refine CW_seq1 ?_
  by_cases hc : m.src = m.to
  · obtain ⟨h2, h3⟩ : m.cursor = 0 ∧ m.back = false := by rcases way with h | h | h; exact h.2; omega; omega
    refine CW_reg fun K_ hK => ?_
    simp [wk, vk, ek, ok, lk, er_oK, er_dRows, buildD, fillD, thr, dMix, hc, h2, h3]
    refine hK _ ?_
    refine CW_yes rfl ?_
    refine CW_reg fun K_ hK => ?_
    simp [wk, vk, ek, ok, lk, er_oK, er_dRows, buildD, fillD, thr, dMix, hc, h2, h3]
    refine hK _ ?_
    refine CW_rt ?_
    refine ends_ret ?_
    simp [Tryz.results26, resD, resL, resD1, vk, wk, ok, lk, er_oK, er_dRows, buildD, fillD, ek, dMix, hc, h2, h3]
  · have hci : ¬ (m.src : Int) = (m.to : Int) := by omega
    have hcb : ((m.src : Int) == (m.to : Int)) = false := beq_eq_false_iff_ne.2 hci
    refine CW_reg fun K_ hK => ?_
    simp [wk, vk, ek, ok, lk, er_oK, er_dRows, buildD, fillD, thr, dMix, hci, hc, hcb]
    refine hK _ ?_
    refine CW_no rfl ?_
    refine CW_sk ?_
    rcases (show m.src = m.to + 1 ∨ m.to = m.src + 1 by rcases way with h | h | h; exact absurd h.1 hc; exact .inl h; exact .inr h) with hw | hw
    · have e1 : IntKind.i64.wrap ((m.src : Int) - (m.to : Int)) = 1 := by rw [w64 (by omega) (by omega)]; omega
      refine CW_reg fun K_ hK => ?_
      simp [wk, vk, ek, ok, lk, er_oK, er_dRows, buildD, fillD, thr, dMix, hci, hc, hcb, e1, c1, c2, c3]
      refine hK _ ?_
      refine CW_rt ?_
      refine ends_ret ?_
      simp [Tryz.results26, resD, resL, resD1, vk, wk, ok, lk, er_oK, er_dRows, buildD, fillD, ek, dMix, hci, hc, hcb, e1, c1, c2, c3]
    · have e1 : IntKind.i64.wrap ((m.src : Int) - (m.to : Int)) = -1 := by rw [w64 (by omega) (by omega)]; omega
      have e2 : IntKind.i64.wrap ((m.to : Int) - (m.src : Int)) = 1 := by rw [w64 (by omega) (by omega)]; omega
      refine CW_reg fun K_ hK => ?_
      simp [wk, vk, ek, ok, lk, er_oK, er_dRows, buildD, fillD, thr, dMix, hci, hc, hcb, e1, e2, c1, c2, c3]
      refine hK _ ?_
      refine CW_rt ?_
      refine ends_ret ?_
      simp [Tryz.results26, resD, resL, resD1, vk, wk, ok, lk, er_oK, er_dRows, buildD, fillD, ek, dMix, hci, hc, hcb, e1, e2, c1, c2, c3]
def ofK (id : Nat) (l : List Kr) : List Kr := l.filter fun r => decide (0 < r.v) && r.id == id
theorem ofK_take (id : Nat) (l : List Kr) (i : Nat) (h : i < l.length) : ofK id (l.take (i + 1)) = ofK id (l.take i) ++ (if 0 < l[i].v ∧ l[i].id = id then [l[i]] else []) := by
  rw [List.take_succ_eq_append_getElem h, ofK, List.filter_append]
  congr 1
  by_cases e : 0 < l[i].v <;> by_cases e2 : l[i].id = id <;> simp [e, e2]
def oKr (g : Nat) (l : List Kr) : D := oR g (l.map Kr.row)
theorem er_oKr (g : Nat) (l : List Kr) : er (oKr g l) = dRows (l.map Kr.row) := er_oR _ _
theorem app_Kr (l : List Kr) (r : Kr) (g : Nat) {tp : Nat → Option (Nat × Nat)} {c : Nat} {w : Own} (hg : l ≠ [] → tp 53 = some (g, l.length)) (hb : l.length ≤ 100000) :
    appD T 53 tp c (oKr g l) (.sl 2 [dRow r.row] w) = some (oKr c (l ++ [r]), upd tp 53 (some (c, l.length + 1)), c + 1) := by
  have h := app_R (l.map Kr.row) r.row g (tp := tp) (c := c) (w := w) (by simpa using hg) (by simpa using hb)
  simpa [oKr] using h
theorem of30 (L : Laid W) (l : List Kr) (hl : l.length ≤ 10000) (hk : ∀ r ∈ l, KrOK r) (id : Nat) : Fc T W 30 [dRows (l.map Kr.row), .i .i64 id] (dRows ((ofK id l).map Kr.row)) := by
  refine Fc_intro (thr := thr) hmix Tryz.func30 rfl (by kernel_rfl) (by simp [Tryz.ntmps30]) ?_
  refine CW_reg fun K_ hK => ?_
  simp [wk, vk, ek, ok, lk, er_oK, er_dRows, buildD, fillD, thr]
  refine hK _ ?_
  refine CW_reg fun K_ hK => ?_
  simp [wk, vk, ek, ok, lk, er_oK, er_dRows, buildD, fillD, thr]
  refine hK _ ?_
  refine CW_seq1 ?_
  refine CW_reg fun K_ hK => ?_
  simp [wk, vk, ek, ok, lk, er_oK, er_dRows, buildD, fillD, thr]
  refine hK _ ?_
  refine CW_for (fun j τ => ∃ (i g : Nat) (o : List Kr), j = l.length - i ∧ i ≤ l.length ∧ o = ofK id (l.take i) ∧ τ.fr 0 = dRows (l.map Kr.row) ∧ τ.fr 1 = .i .i64 id ∧ τ.fr 5 = oKr g o ∧ (o ≠ [] → τ.tp 53 = some (g, o.length)) ∧ τ.fr 6 = .i .i64 i) (l.length) ?_ ?_
  · exact ⟨0, 0, [], rfl, by omega, rfl, by simp [upd], by simp [upd], by simp [upd]; rfl, by simp, by simp [upd]⟩
  · rintro j ⟨fr, bx, tp, c⟩ ⟨i, g, o, rfl, hi, ho, f0, f1, f5, htp, f6⟩ K0 hN0 hX0 hR0 hJ0
    simp only at f0 f1 f5 htp f6
    have hol : o.length ≤ 10000 := by rw [ho]; exact Nat.le_trans (List.length_filter_le _ _) (by simp; omega)
    refine CW_seq1 ?_
    refine CW_reg fun K_ hK => ?_
    simp [wk, vk, ek, ok, lk, er_oK, er_dRows, buildD, fillD, thr, f0, f1, f5, f6]
    refine hK _ ?_
    refine CW_cond rfl (fun hct15 => ?_) (fun hct15 => ?_)
    · have hil : i < l.length := by simpa [wk, vk, ek, ok, f0, f6] using hct15
      have ht := ofK_take id l i hil
      have hok := hk _ (List.getElem_mem hil)
      have hrow : (l[i]).row.key = keyB l[i].v l[i].t l[i].id l[i].seq := rfl
      refine CW_sk ?_
      refine CW_seq1 ?_
      refine CW_blk fun K1 hn1 hx1 hr1 hj1 => ?_
      refine CW_reg fun K_ hK => ?_
      simp [wk, vk, ek, ok, lk, er_oK, er_dRows, buildD, fillD, thr, f0, f1, f5, f6, hil, dRow]
      refine CallW_use (by rw [hrow]; exact parts_ok L l[i].v l[i].t l[i].id l[i].seq hok.v hok.t (by have := hok.id; omega) (by have := hok.seq; omega)) ?_
      simp [wk, vk, ek, ok, lk, er_oK, er_dRows, buildD, fillD, thr, f0, f1, f5, f6, hil, dRow]
      refine hK _ ?_
      by_cases hv : 0 < l[i].v
      · have hvi : (0 : Int) < (l[i].v : Int) := by omega
        refine CW_reg fun K_ hK => ?_
        simp [wk, vk, ek, ok, lk, er_oK, er_dRows, buildD, fillD, thr, f0, f1, f5, f6, hil, hv, hvi]
        refine hK _ ?_
        refine CW_cond rfl (fun hct39 => ?_) (fun hct39 => ?_)
        · have hq : (l[i].id : Int) = (id : Int) := by simpa [wk, vk, ek, ok, f1] using hct39
          have hid : l[i].id = id := by omega
          rw [if_pos ⟨hv, hid⟩] at ht
          refine CW_reg1 fun K_ hK => ?_
          simp [wk, vk, ek, ok, lk, er_oK, er_dRows, buildD, fillD, thr, f0, f1, f5, f6, hil, hv, hvi, isAg_row, clen_row]
          refine AppW_use (app_Kr o l[i] g htp (by omega)) ?_
          simp [wk, vk, ek, ok, lk, er_oK, er_dRows, buildD, fillD, thr, f0, f1, f5, f6, hil, hv, hvi, isAg_row, clen_row]
          refine hK _ ?_
          refine hn1 _ ?_
          refine CW_reg1 fun K_ hK => ?_
          simp [wk, vk, ek, ok, lk, er_oK, er_dRows, buildD, fillD, thr, f0, f1, f5, f6, hil, hv, hvi]
          refine hK _ ?_
          refine hN0 (l.length - (i + 1)) _ (by omega) ⟨i + 1, _, o ++ [l[i]], rfl, by omega, by rw [ht, ho], by simp [upd, f0], by simp [upd, f1], by simp [upd]; rfl, fun _ => by simp [upd], ?_⟩
          simp [upd]; rw [w64 (by omega) (by omega)]
        · have hq : ¬ (l[i].id : Int) = (id : Int) := by simpa [wk, vk, ek, ok, f1] using hct39
          have hid : ¬ l[i].id = id := by omega
          rw [if_neg (fun h => hid h.2)] at ht
          refine CW_sk ?_
          refine hn1 _ ?_
          refine CW_reg1 fun K_ hK => ?_
          simp [wk, vk, ek, ok, lk, er_oK, er_dRows, buildD, fillD, thr, f0, f1, f5, f6, hil, hv, hvi]
          refine hK _ ?_
          refine hN0 (l.length - (i + 1)) _ (by omega) ⟨i + 1, g, o, rfl, by omega, by rw [ht, ho, List.append_nil], by simp [upd, f0], by simp [upd, f1], by simp [upd, f5], fun h => htp h, ?_⟩
          simp [upd]; rw [w64 (by omega) (by omega)]
      · have hvi : ¬ (0 : Int) < (l[i].v : Int) := by omega
        rw [if_neg (fun h => hv h.1)] at ht
        have hv0 : l[i].v = 0 := by omega
        refine CW_reg fun K_ hK => ?_
        simp [wk, vk, ek, ok, lk, er_oK, er_dRows, buildD, fillD, thr, f0, f1, f5, f6, hil, hvi, hv]
        refine hK _ ?_
        refine CW_no rfl ?_
        refine CW_sk ?_
        refine hn1 _ ?_
        refine CW_reg1 fun K_ hK => ?_
        simp [wk, vk, ek, ok, lk, er_oK, er_dRows, buildD, fillD, thr, f0, f1, f5, f6, hil, hvi, hv]
        refine hK _ ?_
        refine hN0 (l.length - (i + 1)) _ (by omega) ⟨i + 1, g, o, rfl, by omega, by rw [ht, ho, List.append_nil], by simp [upd, f0], by simp [upd, f1], by simp [upd, f5], fun h => htp h, ?_⟩
        simp [upd]; rw [w64 (by omega) (by omega)]
    · have hil : ¬ i < l.length := by simpa [wk, vk, ek, ok, f0, f6] using hct15
      rw [List.take_of_length_le (by omega)] at ho
      refine CW_ex ?_
      refine hX0 _ ?_
      refine CW_reg fun K_ hK => ?_
      simp [wk, vk, ek, ok, lk, er_oK, er_dRows, buildD, fillD, thr, f5, er_oKr]
      refine hK _ ?_
      refine CW_rt ?_
      refine ends_ret ?_
      simp [Tryz.results30, resD, resL, resD1, vk, wk, ok, lk, er_oK, er_dRows, buildD, fillD, ek, ho, f5, er_oKr]
end Go.Proofs.YtobamidecbfgpaaGreatDoor
