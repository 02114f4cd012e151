/- Encode, over the shadow. No condition. -/
import Derived.Test.YtobamidecbfgpaaGreatDoorAe
namespace Go.Proofs.YtobamidecbfgpaaGreatDoor
open Go Go.Sh Go.RowKit
set_option linter.unusedVariables false
set_option linter.unusedSimpArgs false
set_option maxRecDepth 10000
variable {W : World}
theorem CW_join {a b : Code} {σ : St} {Q : Exit → St → Prop} (I : St → Prop) (h1 : ∀ K : Exit → St → Prop, (∀ τ, I τ → K .normal τ) → (∀ x τ, x ≠ .normal → Q x τ → K x τ) → CW T W thr a σ K) (h2 : ∀ τ, I τ → CW T W thr b τ Q) : CW T W thr (.seq a b) σ Q :=
  CW_seq fun K hn hx => h1 K (fun τ hI => hn τ (h2 τ hI)) hx
def row14 (y : Sub) : K → Row
  | .gaps => rowK 3 y.id 97 0 (numB y.acks.length ++ numsB (gapL y.floor y.acks))
  | .msg m => rowK 3 y.id 113 m.seq (textB m.body ++ (textB m.attr ++ (numB m.tries ++ (numB m.til ++ (numB m.prio ++ numB (deathN m))))))
  | .sub => rowK 3 y.id 115 0 (textB y.name ++ (textB y.topic ++ (textB y.want ++ (numB y.lease ++ (numB y.most ++ (numB y.floor ++ textB y.note))))))
  | _ => ⟨[], []⟩
def nz (s : Str) (k : K) : List K := if s = [] then [] else [k]
def gz (l : List Nat) : List K := if l.length = 0 then [] else [K.gaps]
def mz (m : Msg) : List K := if m.prio = 0 ∧ m.dead = false then [] else [K.more m]
def oK (ρ : K → Row) (g : Nat) (ks : List K) : D := oR g (ks.map ρ)
theorem er_oK (ρ : K → Row) (g : Nat) (ks : List K) : er (oK ρ g ks) = dRows (ks.map ρ) := er_oR _ _
theorem app_K (ρ : K → Row) (ks : List K) (k : K) (g : Nat) {r : Row} {tp : Nat → Option (Nat × Nat)} {c : Nat} {w : Own} (hr : r = ρ k) (hg : ks ≠ [] → tp 53 = some (g, ks.length)) (hb : ks.length ≤ 100000) :
    appD T 53 tp c (oK ρ g ks) (.sl 2 [dRow r] w) = some (oK ρ c (ks ++ [k]), upd tp 53 (some (c, ks.length + 1)), c + 1) := by
  have h := app_R (ks.map ρ) (ρ k) g (tp := tp) (c := c) (w := w) (by simpa using hg) (by simpa using hb)
  rw [hr]
  simpa [oK] using h
def EncI (x : Sub) (ρ : K → Row) (ks : List K) (τ : St) : Prop := τ.fr 1 = .p 1 0 0 ∧ τ.bx 1 0 = some (dSub x) ∧ ∃ g, τ.fr 3 = oK ρ g ks ∧ (ks ≠ [] → τ.tp 53 = some (g, ks.length))
theorem nz_len (s : Str) (k : K) : (nz s k).length ≤ 1 := by unfold nz; split <;> simp
theorem gz_len (l : List Nat) : (gz l).length ≤ 1 := by unfold gz; split <;> simp
theorem mz_len : ∀ l : List Msg, (l.flatMap mz).length ≤ l.length
  | [] => by simp
  | m :: l => by
    have := mz_len l
    have h1 : (mz m).length ≤ 1 := by unfold mz; split <;> simp
    simp only [List.flatMap_cons, List.length_append, List.length_cons]; omega
def kinds12 (x : Sub) : List K := x.acks.map K.ack ++ nz x.note K.note ++ x.queue.map K.msg ++ [K.sub] ++ nz x.want K.want ++ x.queue.flatMap mz
def kinds13 (x : Sub) : List K := gz x.acks ++ x.queue.map K.body ++ nz x.note K.note ++ x.queue.map K.msg ++ [K.sub] ++ x.queue.flatMap mz
def kinds14 (x : Sub) : List K := gz x.acks ++ x.queue.map K.msg ++ [K.sub]
theorem enc52 (L : Laid W) (x : Sub) (hx : SubOK x) : Fc T W 52 [dSub x] (dRows ((kinds14 x).map (row14 x))) := by
  refine Fc_intro (thr := thr) hmix Tryz.func52 rfl (by kernel_rfl) (by simp [Tryz.ntmps52]) ?_
  refine CW_reg fun K_ hK => ?_
  simp [wk, vk, ek, ok, lk, er_oK, er_dRows, buildD, fillD, thr, dSub]
  refine hK _ ?_
  refine CW_reg fun K_ hK => ?_
  simp [wk, vk, ek, ok, lk, er_oK, er_dRows, buildD, fillD, thr, dSub]
  refine hK _ ?_
  refine CW_join (EncI x (row14 x) (gz x.acks)) (fun Kj2 hKn2 hKx2 => ?_) ?_
  · refine CW_reg fun K_ hK => ?_
    simp [wk, vk, ek, ok, lk, er_oK, er_dRows, buildD, fillD, thr, dSub]
    refine hK _ ?_
    refine CW_cond rfl (fun hct10 => ?_) (fun hct10 => ?_)
    · have hne : ¬ x.acks.length = 0 := by have h : 0 < x.acks.length := (by simpa [wk, vk, ek, ok, dSub] using hct10); omega
      refine CW_reg1 fun K_ hK => ?_
      simp [wk, vk, ek, ok, lk, er_oK, er_dRows, buildD, fillD, thr, dSub]
      refine CallW_use (acks91 x hx.rise hx.ackle hx.acks) ?_
      simp [wk, vk, ek, ok, lk, er_oK, er_dRows, buildD, fillD, thr, dSub]
      refine CallW_use (row90 L (t := 97) (seq := 0) (by decide) (by have := hx.id; omega) (by decide)) ?_
      simp [wk, vk, ek, ok, lk, er_oK, er_dRows, buildD, fillD, thr, dSub]
      refine AppW_use (app_K (row14 x) [] K.gaps 0 rfl (by simp) (by simp)) ?_
      simp [wk, vk, ek, ok, lk, er_oK, er_dRows, buildD, fillD, thr, dSub]
      refine hK _ ?_
      refine hKn2 _ ?_
      refine ⟨by simp [upd], by simp [upd2, dSub], _, by simp [upd]; rw [show gz x.acks = [] ++ [K.gaps] from if_neg hne]; rfl, fun _ => by rw [show gz x.acks = [] ++ [K.gaps] from if_neg hne]; simp [upd]⟩
    · have he : x.acks.length = 0 := by have h : ¬ 0 < x.acks.length := (by simpa [wk, vk, ek, ok, dSub] using hct10); omega
      refine CW_sk ?_
      refine hKn2 _ ?_
      refine ⟨by simp [upd], by simp [upd2, dSub], 0, by simp [upd]; rw [show gz x.acks = [] from if_pos he]; rfl, fun h => absurd (show gz x.acks = [] from if_pos he) h⟩
  · rintro ⟨fr, bx, tp, c⟩ ⟨f1, b1, g, f3, htp⟩
    simp only at f1 b1 f3 htp
    have b0 := b1
    rw [dSub] at b1
    refine CW_seq1 ?_
    refine CW_reg fun K_ hK => ?_
    simp [wk, vk, ek, ok, lk, er_oK, er_dRows, buildD, fillD, thr, f1, b1, f3]
    refine hK _ ?_
    refine CW_for (fun j τ => ∃ (i : Nat) (ks : List K), j = x.queue.length - i ∧ i ≤ x.queue.length ∧ ks = gz x.acks ++ (x.queue.take i).map K.msg ∧ EncI x (row14 x) ks τ ∧ τ.fr 4 = .i .i64 i) (x.queue.length) ?_ ?_
    · exact ⟨0, gz x.acks, rfl, by omega, by simp, ⟨by simp [upd, f1], by simp [upd2, b0], g, by simp [upd, f3], fun h => htp h⟩, by simp [upd]⟩
    · rintro j ⟨fr, bx, tp, c⟩ ⟨i, ks, rfl, hi, hks, ⟨f1, b1, g, f3, htp⟩, f4⟩ K0 hN0 hX0 hR0 hJ0
      simp only at f1 b1 f3 htp f4
      have b0 := b1
      rw [dSub] at b1
      have hkl : ks.length ≤ 1000 := by have h1 := hx.acks; have h2 := hx.queue; rw [hks]; simp [gz]; (repeat split) <;> simp <;> omega
      have hqn := hx.queue
      have han := hx.acks
      refine CW_seq1 ?_
      refine CW_reg fun K_ hK => ?_
      simp [wk, vk, ek, ok, lk, er_oK, er_dRows, buildD, fillD, thr, f1, b1, f3, f4]
      refine hK _ ?_
      refine CW_cond rfl (fun hct23 => ?_) (fun hct23 => ?_)
      · have hil : i < x.queue.length := by simpa [wk, vk, ek, ok, f1, b1, f3, f4] using hct23
        have hm := hx.msgs _ (List.getElem_mem hil)
        obtain ⟨m, hmE⟩ : ∃ m, m = x.queue[i] := ⟨_, rfl⟩
        rw [← hmE] at hm
        have hq_0 := textB_len m.body (by have := hm.body; omega)
        have hq_1 := textB_len m.attr (by have := hm.attr; omega)
        have hq_2 := numB_len8 (n := m.tries) (by have := hm.tries; omega)
        have hq_3 := numB_len8 (n := m.til) (by have := hm.til; omega)
        have hq_4 := numB_len8 (n := m.prio) (by have := hm.prio; omega)
        have hq_5 := numB_len8 (n := (deathN m)) (by have := deathN_le m; omega)
        refine CW_sk ?_
        refine CW_seq1 ?_
        refine CW_blk fun K1 hn1 hx1 hr1 hj1 => ?_
        refine CW_reg fun K_ hK => ?_
        simp [wk, vk, ek, ok, lk, er_oK, er_dRows, buildD, fillD, thr, f1, b1, f3, f4, hil, dMsg, ← hmE]
        refine hK _ ?_
        refine CW_reg1 fun K_ hK => ?_
        simp [wk, vk, ek, ok, lk, er_oK, er_dRows, buildD, fillD, thr, f1, b1, f3, f4, hil, dMsg, ← hmE]
        refine CallT_use (ntext93 (by have := hm.body; omega)) ?_
        simp [wk, vk, ek, ok, lk, er_oK, er_dRows, buildD, fillD, thr, f1, b1, f3, f4, hil, dMsg, ← hmE]
        refine CallT_use (otext93 (by simp [upd]) (by have := hm.attr; omega) (by (try simp); omega)) ?_
        simp [wk, vk, ek, ok, lk, er_oK, er_dRows, buildD, fillD, thr, f1, b1, f3, f4, hil, dMsg, ← hmE]
        refine CallT_use (onum92 (by simp [upd]) (by have := hm.tries; omega) (by (try simp); omega)) ?_
        simp [wk, vk, ek, ok, lk, er_oK, er_dRows, buildD, fillD, thr, f1, b1, f3, f4, hil, dMsg, ← hmE]
        refine CallT_use (onum92 (by simp [upd]) (by have := hm.til; omega) (by (try simp); omega)) ?_
        simp [wk, vk, ek, ok, lk, er_oK, er_dRows, buildD, fillD, thr, f1, b1, f3, f4, hil, dMsg, ← hmE]
        refine CallT_use (onum92 (by simp [upd]) (by have := hm.prio; omega) (by (try simp); omega)) ?_
        simp [wk, vk, ek, ok, lk, er_oK, er_dRows, buildD, fillD, thr, f1, b1, f3, f4, hil, dMsg, ← hmE]
        refine CallW_use (death94 m) ?_
        simp [wk, vk, ek, ok, lk, er_oK, er_dRows, buildD, fillD, thr, f1, b1, f3, f4, hil, dMsg, ← hmE]
        refine CallT_use (onum92 (by simp [upd]) (by have := deathN_le m; omega) (by (try simp); omega)) ?_
        simp [wk, vk, ek, ok, lk, er_oK, er_dRows, buildD, fillD, thr, f1, b1, f3, f4, hil, dMsg, ← hmE]
        refine CallW_use (row90 L (t := 113) (seq := m.seq) (by decide) (by have := hx.id; omega) (by have := hm.seq; omega)) ?_
        simp [wk, vk, ek, ok, lk, er_oK, er_dRows, buildD, fillD, thr, f1, b1, f3, f4, hil, dMsg, ← hmE]
        refine AppW_use (app_K (row14 x) ks (K.msg m) g rfl (fun h => by simpa [upd] using htp h) (by omega)) ?_
        simp [wk, vk, ek, ok, lk, er_oK, er_dRows, buildD, fillD, thr, f1, b1, f3, f4, hil, dMsg, ← hmE]
        refine hK _ ?_
        refine hn1 _ ?_
        refine CW_reg1 fun K_ hK => ?_
        simp [wk, vk, ek, ok, lk, er_oK, er_dRows, buildD, fillD, thr, f1, b1, f3, f4, hil, dMsg, ← hmE]
        refine hK _ ?_
        refine hN0 (x.queue.length - (i + 1)) _ (by omega) ⟨i + 1, ks ++ [K.msg m], rfl, by omega, ?_, ⟨by simp [upd, f1], by simp [upd2, b0, b1, dSub], _, by simp [upd]; rfl, fun _ => by simp [upd]⟩, ?_⟩
        · rw [hks, hmE, List.take_succ_eq_append_getElem hil, List.map_append]; (try rw [← List.append_assoc]); rfl
        · simp [upd]; rw [w64 (by omega) (by omega)]
      · have hil : ¬ i < x.queue.length := by simpa [wk, vk, ek, ok, f1, b1, f3, f4] using hct23
        rw [List.take_of_length_le (by omega)] at hks
        have hq_0 := textB_len x.name (by have := hx.name; omega)
        have hq_1 := textB_len x.topic (by have := hx.topic; omega)
        have hq_2 := textB_len x.want (by have := hx.want; omega)
        have hq_3 := numB_len8 (n := x.lease) (by have := hx.lease; omega)
        have hq_4 := numB_len8 (n := x.most) (by have := hx.most; omega)
        have hq_5 := numB_len8 (n := x.floor) (by have := hx.floor; omega)
        have hq_6 := textB_len x.note (by have := hx.note; omega)
        refine CW_ex ?_
        refine hX0 _ ?_
        refine CW_reg fun K_ hK => ?_
        simp [wk, vk, ek, ok, lk, er_oK, er_dRows, buildD, fillD, thr, f1, b1, f3]
        refine CallT_use (ntext93 (by have := hx.name; omega)) ?_
        simp [wk, vk, ek, ok, lk, er_oK, er_dRows, buildD, fillD, thr, f1, b1, f3]
        refine CallT_use (otext93 (by simp [upd]) (by have := hx.topic; omega) (by (try simp); omega)) ?_
        simp [wk, vk, ek, ok, lk, er_oK, er_dRows, buildD, fillD, thr, f1, b1, f3]
        refine CallT_use (otext93 (by simp [upd]) (by have := hx.want; omega) (by (try simp); omega)) ?_
        simp [wk, vk, ek, ok, lk, er_oK, er_dRows, buildD, fillD, thr, f1, b1, f3]
        refine CallT_use (onum92 (by simp [upd]) (by have := hx.lease; omega) (by (try simp); omega)) ?_
        simp [wk, vk, ek, ok, lk, er_oK, er_dRows, buildD, fillD, thr, f1, b1, f3]
        refine CallT_use (onum92 (by simp [upd]) (by have := hx.most; omega) (by (try simp); omega)) ?_
        simp [wk, vk, ek, ok, lk, er_oK, er_dRows, buildD, fillD, thr, f1, b1, f3]
        refine CallT_use (onum92 (by simp [upd]) (by have := hx.floor; omega) (by (try simp); omega)) ?_
        simp [wk, vk, ek, ok, lk, er_oK, er_dRows, buildD, fillD, thr, f1, b1, f3]
        refine hK _ ?_
        refine CW_reg fun K_ hK => ?_
        simp [wk, vk, ek, ok, lk, er_oK, er_dRows, buildD, fillD, thr, f1, b1, f3]
        refine CallT_use (otext93 (by simp [upd]) (by have := hx.note; omega) (by (try simp); omega)) ?_
        simp [wk, vk, ek, ok, lk, er_oK, er_dRows, buildD, fillD, thr, f1, b1, f3]
        refine CallW_use (row90 L (t := 115) (seq := 0) (by decide) (by have := hx.id; omega) (by decide)) ?_
        simp [wk, vk, ek, ok, lk, er_oK, er_dRows, buildD, fillD, thr, f1, b1, f3]
        refine AppW_use (app_K (row14 x) ks (K.sub) g rfl (fun h => by simpa [upd] using htp h) (by omega)) ?_
        simp [wk, vk, ek, ok, lk, er_oK, er_dRows, buildD, fillD, thr, f1, b1, f3]
        refine hK _ ?_
        refine CW_reg fun K_ hK => ?_
        simp [wk, vk, ek, ok, lk, er_oK, er_dRows, buildD, fillD, thr, f1, b1, f3]
        refine hK _ ?_
        refine CW_rt ?_
        refine ends_ret ?_
        simp [Tryz.results52, resD, resL, resD1, vk, wk, ok, lk, er_oK, er_dRows, buildD, fillD, ek, kinds14, hks, f1, b1, f3]
theorem enc51 (L : Laid W) (x : Sub) (hx : SubOK x) : Fc T W 51 [dSub x] (dRows ((kinds13 x).map (row13 x))) := by
  refine Fc_intro (thr := thr) hmix Tryz.func51 rfl (by kernel_rfl) (by simp [Tryz.ntmps51]) ?_
  refine CW_reg fun K_ hK => ?_
  simp [wk, vk, ek, ok, lk, er_oK, er_dRows, buildD, fillD, thr, dSub]
  refine hK _ ?_
  refine CW_reg fun K_ hK => ?_
  simp [wk, vk, ek, ok, lk, er_oK, er_dRows, buildD, fillD, thr, dSub]
  refine hK _ ?_
  refine CW_join (EncI x (row13 x) (gz x.acks)) (fun Kj2 hKn2 hKx2 => ?_) ?_
  · refine CW_reg fun K_ hK => ?_
    simp [wk, vk, ek, ok, lk, er_oK, er_dRows, buildD, fillD, thr, dSub]
    refine hK _ ?_
    refine CW_cond rfl (fun hct12 => ?_) (fun hct12 => ?_)
    · have hne : ¬ x.acks.length = 0 := by have h : 0 < x.acks.length := (by simpa [wk, vk, ek, ok, dSub] using hct12); omega
      refine CW_reg1 fun K_ hK => ?_
      simp [wk, vk, ek, ok, lk, er_oK, er_dRows, buildD, fillD, thr, dSub]
      refine CallW_use (acks85 x hx.rise hx.ackle hx.acks) ?_
      simp [wk, vk, ek, ok, lk, er_oK, er_dRows, buildD, fillD, thr, dSub]
      refine CallW_use (row84 L (t := 97) (seq := 0) (by decide) (by have := hx.id; omega) (by decide)) ?_
      simp [wk, vk, ek, ok, lk, er_oK, er_dRows, buildD, fillD, thr, dSub]
      refine AppW_use (app_K (row13 x) [] K.gaps 0 rfl (by simp) (by simp)) ?_
      simp [wk, vk, ek, ok, lk, er_oK, er_dRows, buildD, fillD, thr, dSub]
      refine hK _ ?_
      refine hKn2 _ ?_
      refine ⟨by simp [upd], by simp [upd2, dSub], _, by simp [upd]; rw [show gz x.acks = [] ++ [K.gaps] from if_neg hne]; rfl, fun _ => by rw [show gz x.acks = [] ++ [K.gaps] from if_neg hne]; simp [upd]⟩
    · have he : x.acks.length = 0 := by have h : ¬ 0 < x.acks.length := (by simpa [wk, vk, ek, ok, dSub] using hct12); omega
      refine CW_sk ?_
      refine hKn2 _ ?_
      refine ⟨by simp [upd], by simp [upd2, dSub], 0, by simp [upd]; rw [show gz x.acks = [] from if_pos he]; rfl, fun h => absurd (show gz x.acks = [] from if_pos he) h⟩
  · rintro ⟨fr, bx, tp, c⟩ ⟨f1, b1, g, f3, htp⟩
    simp only at f1 b1 f3 htp
    have b0 := b1
    rw [dSub] at b1
    refine CW_seq1 ?_
    refine CW_reg fun K_ hK => ?_
    simp [wk, vk, ek, ok, lk, er_oK, er_dRows, buildD, fillD, thr, f1, b1, f3]
    refine hK _ ?_
    refine CW_for (fun j τ => ∃ (i : Nat) (ks : List K), j = x.queue.length - i ∧ i ≤ x.queue.length ∧ ks = gz x.acks ++ (x.queue.take i).map K.body ∧ EncI x (row13 x) ks τ ∧ τ.fr 4 = .i .i64 i) (x.queue.length) ?_ ?_
    · exact ⟨0, gz x.acks, rfl, by omega, by simp, ⟨by simp [upd, f1], by simp [upd2, b0], g, by simp [upd, f3], fun h => htp h⟩, by simp [upd]⟩
    · rintro j ⟨fr, bx, tp, c⟩ ⟨i, ks, rfl, hi, hks, ⟨f1, b1, g, f3, htp⟩, f4⟩ K0 hN0 hX0 hR0 hJ0
      simp only at f1 b1 f3 htp f4
      have b0 := b1
      rw [dSub] at b1
      have hkl : ks.length ≤ 1000 := by have h1 := hx.acks; have h2 := hx.queue; rw [hks]; have hl1 := nz_len x.note K.note; have hl2 := nz_len x.want K.want; have hl3 := gz_len x.acks; have hl4 := mz_len (x.queue.take i); have hqn := hx.queue; have han := hx.acks; simp only [List.length_append, List.length_map, List.length_take, List.length_cons, List.length_nil] at hl4 ⊢; omega
      have hqn := hx.queue
      have han := hx.acks
      refine CW_seq1 ?_
      refine CW_reg fun K_ hK => ?_
      simp [wk, vk, ek, ok, lk, er_oK, er_dRows, buildD, fillD, thr, f1, b1, f3, f4]
      refine hK _ ?_
      refine CW_cond rfl (fun hct25 => ?_) (fun hct25 => ?_)
      · have hil : i < x.queue.length := by simpa [wk, vk, ek, ok, f1, b1, f3, f4] using hct25
        have hm := hx.msgs _ (List.getElem_mem hil)
        obtain ⟨m, hmE⟩ : ∃ m, m = x.queue[i] := ⟨_, rfl⟩
        rw [← hmE] at hm
        have hq_0 := textB_len m.body (by have := hm.body; omega)
        refine CW_sk ?_
        refine CW_seq1 ?_
        refine CW_blk fun K1 hn1 hx1 hr1 hj1 => ?_
        refine CW_reg1 fun K_ hK => ?_
        simp [wk, vk, ek, ok, lk, er_oK, er_dRows, buildD, fillD, thr, f1, b1, f3, f4, hil, dMsg, ← hmE]
        refine CallT_use (ntext86 (by have := hm.body; omega)) ?_
        simp [wk, vk, ek, ok, lk, er_oK, er_dRows, buildD, fillD, thr, f1, b1, f3, f4, hil, dMsg, ← hmE]
        refine CallW_use (row84 L (t := 98) (seq := m.seq) (by decide) (by have := hx.id; omega) (by have := hm.seq; omega)) ?_
        simp [wk, vk, ek, ok, lk, er_oK, er_dRows, buildD, fillD, thr, f1, b1, f3, f4, hil, dMsg, ← hmE]
        refine AppW_use (app_K (row13 x) ks (K.body m) g rfl (fun h => by simpa [upd] using htp h) (by omega)) ?_
        simp [wk, vk, ek, ok, lk, er_oK, er_dRows, buildD, fillD, thr, f1, b1, f3, f4, hil, dMsg, ← hmE]
        refine hK _ ?_
        refine hn1 _ ?_
        refine CW_reg1 fun K_ hK => ?_
        simp [wk, vk, ek, ok, lk, er_oK, er_dRows, buildD, fillD, thr, f1, b1, f3, f4, hil, dMsg, ← hmE]
        refine hK _ ?_
        refine hN0 (x.queue.length - (i + 1)) _ (by omega) ⟨i + 1, ks ++ [K.body m], rfl, by omega, ?_, ⟨by simp [upd, f1], by simp [upd2, b0, b1, dSub], _, by simp [upd]; rfl, fun _ => by simp [upd]⟩, ?_⟩
        · rw [hks, hmE, List.take_succ_eq_append_getElem hil, List.map_append]; (try rw [← List.append_assoc]); rfl
        · simp [upd]; rw [w64 (by omega) (by omega)]
      · have hil : ¬ i < x.queue.length := by simpa [wk, vk, ek, ok, f1, b1, f3, f4] using hct25
        rw [List.take_of_length_le (by omega)] at hks
        refine CW_ex ?_
        refine hX0 _ ?_
        refine CW_join (EncI x (row13 x) ((gz x.acks ++ x.queue.map K.body) ++ nz x.note K.note)) (fun Kj8 hKn8 hKx8 => ?_) ?_
        · refine CW_reg fun K_ hK => ?_
          simp [wk, vk, ek, ok, lk, er_oK, er_dRows, buildD, fillD, thr, f1, b1, f3]
          refine hK _ ?_
          refine CW_cond rfl (fun hct49 => ?_) (fun hct49 => ?_)
          · have hne : ¬ x.note = [] := by simpa [wk, vk, ek, ok, f1, b1, f3] using hct49
            refine CW_reg1 fun K_ hK => ?_
            simp [wk, vk, ek, ok, lk, er_oK, er_dRows, buildD, fillD, thr, f1, b1, f3]
            refine CallT_use (ntext86 (by have := hx.note; omega)) ?_
            simp [wk, vk, ek, ok, lk, er_oK, er_dRows, buildD, fillD, thr, f1, b1, f3]
            refine CallW_use (row84 L (t := 110) (seq := 0) (by decide) (by have := hx.id; omega) (by decide)) ?_
            simp [wk, vk, ek, ok, lk, er_oK, er_dRows, buildD, fillD, thr, f1, b1, f3]
            refine AppW_use (app_K (row13 x) ks (K.note) g rfl (fun h => by simpa [upd] using htp h) (by omega)) ?_
            simp [wk, vk, ek, ok, lk, er_oK, er_dRows, buildD, fillD, thr, f1, b1, f3]
            refine hK _ ?_
            refine hKn8 _ ?_
            rw [show (gz x.acks ++ x.queue.map K.body) ++ nz x.note K.note = ks ++ [K.note] by rw [hks, show nz x.note K.note = [K.note] from if_neg hne]]
            refine ⟨by simp [upd, f1], by simp [upd2, b0, b1, dSub], _, by simp [upd]; rfl, fun _ => by simp [upd]⟩
          · have hne : x.note = [] := by simpa [wk, vk, ek, ok, f1, b1, f3] using hct49
            refine CW_sk ?_
            refine hKn8 _ ?_
            rw [show (gz x.acks ++ x.queue.map K.body) ++ nz x.note K.note = ks by rw [hks, show nz x.note K.note = [] from if_pos hne]; simp]
            refine ⟨by simp [upd, f1], by simp [upd2, b0, b1, dSub], g, by simp [upd, f3], fun h => by simpa [upd] using htp h⟩
        · rintro ⟨fr, bx, tp, c⟩ ⟨f1, b1, g, f3, htp⟩
          simp only at f1 b1 f3 htp
          have b0 := b1
          rw [dSub] at b1
          refine CW_seq1 ?_
          refine CW_reg fun K_ hK => ?_
          simp [wk, vk, ek, ok, lk, er_oK, er_dRows, buildD, fillD, thr, f1, b1, f3]
          refine hK _ ?_
          refine CW_for (fun j τ => ∃ (i : Nat) (ks : List K), j = x.queue.length - i ∧ i ≤ x.queue.length ∧ ks = (gz x.acks ++ x.queue.map K.body) ++ nz x.note K.note ++ (x.queue.take i).map K.msg ∧ EncI x (row13 x) ks τ ∧ τ.fr 5 = .i .i64 i) (x.queue.length) ?_ ?_
          · exact ⟨0, (gz x.acks ++ x.queue.map K.body) ++ nz x.note K.note, rfl, by omega, by simp, ⟨by simp [upd, f1], by simp [upd2, b0], g, by simp [upd, f3], fun h => htp h⟩, by simp [upd]⟩
          · rintro j ⟨fr, bx, tp, c⟩ ⟨i, ks, rfl, hi, hks, ⟨f1, b1, g, f3, htp⟩, f5⟩ K2 hN2 hX2 hR2 hJ2
            simp only at f1 b1 f3 htp f5
            have b0 := b1
            rw [dSub] at b1
            have hkl : ks.length ≤ 1000 := by have h1 := hx.acks; have h2 := hx.queue; rw [hks]; have hl1 := nz_len x.note K.note; have hl2 := nz_len x.want K.want; have hl3 := gz_len x.acks; have hl4 := mz_len (x.queue.take i); have hqn := hx.queue; have han := hx.acks; simp only [List.length_append, List.length_map, List.length_take, List.length_cons, List.length_nil] at hl4 ⊢; omega
            have hqn := hx.queue
            have han := hx.acks
            refine CW_seq1 ?_
            refine CW_reg fun K_ hK => ?_
            simp [wk, vk, ek, ok, lk, er_oK, er_dRows, buildD, fillD, thr, f1, b1, f3, f5]
            refine hK _ ?_
            refine CW_cond rfl (fun hct63 => ?_) (fun hct63 => ?_)
            · have hil : i < x.queue.length := by simpa [wk, vk, ek, ok, f1, b1, f3, f5] using hct63
              have hm := hx.msgs _ (List.getElem_mem hil)
              obtain ⟨m, hmE⟩ : ∃ m, m = x.queue[i] := ⟨_, rfl⟩
              rw [← hmE] at hm
              have hq_0 := textB_len m.attr (by have := hm.attr; omega)
              have hq_1 := numB_len8 (n := m.tries) (by have := hm.tries; omega)
              have hq_2 := numB_len8 (n := m.til) (by have := hm.til; omega)
              have hq_3 := numB_len8 (n := (isDead m)) (by have := isDead_le m; omega)
              refine CW_sk ?_
              refine CW_seq1 ?_
              refine CW_blk fun K3 hn3 hx3 hr3 hj3 => ?_
              refine CW_reg fun K_ hK => ?_
              simp [wk, vk, ek, ok, lk, er_oK, er_dRows, buildD, fillD, thr, f1, b1, f3, f5, hil, dMsg, ← hmE]
              refine hK _ ?_
              refine CW_reg1 fun K_ hK => ?_
              simp [wk, vk, ek, ok, lk, er_oK, er_dRows, buildD, fillD, thr, f1, b1, f3, f5, hil, dMsg, ← hmE]
              refine CallT_use (ntext86 (by have := hm.attr; omega)) ?_
              simp [wk, vk, ek, ok, lk, er_oK, er_dRows, buildD, fillD, thr, f1, b1, f3, f5, hil, dMsg, ← hmE]
              refine CallT_use (onum87 (by simp [upd]) (by have := hm.tries; omega) (by (try simp); omega)) ?_
              simp [wk, vk, ek, ok, lk, er_oK, er_dRows, buildD, fillD, thr, f1, b1, f3, f5, hil, dMsg, ← hmE]
              refine CallT_use (onum87 (by simp [upd]) (by have := hm.til; omega) (by (try simp); omega)) ?_
              simp [wk, vk, ek, ok, lk, er_oK, er_dRows, buildD, fillD, thr, f1, b1, f3, f5, hil, dMsg, ← hmE]
              refine CallW_use (dead88 m) ?_
              simp [wk, vk, ek, ok, lk, er_oK, er_dRows, buildD, fillD, thr, f1, b1, f3, f5, hil, dMsg, ← hmE]
              refine CallT_use (onum87 (by simp [upd]) (by have := isDead_le m; omega) (by (try simp); omega)) ?_
              simp [wk, vk, ek, ok, lk, er_oK, er_dRows, buildD, fillD, thr, f1, b1, f3, f5, hil, dMsg, ← hmE]
              refine CallW_use (row84 L (t := 113) (seq := m.seq) (by decide) (by have := hx.id; omega) (by have := hm.seq; omega)) ?_
              simp [wk, vk, ek, ok, lk, er_oK, er_dRows, buildD, fillD, thr, f1, b1, f3, f5, hil, dMsg, ← hmE]
              refine AppW_use (app_K (row13 x) ks (K.msg m) g rfl (fun h => by simpa [upd] using htp h) (by omega)) ?_
              simp [wk, vk, ek, ok, lk, er_oK, er_dRows, buildD, fillD, thr, f1, b1, f3, f5, hil, dMsg, ← hmE]
              refine hK _ ?_
              refine hn3 _ ?_
              refine CW_reg1 fun K_ hK => ?_
              simp [wk, vk, ek, ok, lk, er_oK, er_dRows, buildD, fillD, thr, f1, b1, f3, f5, hil, dMsg, ← hmE]
              refine hK _ ?_
              refine hN2 (x.queue.length - (i + 1)) _ (by omega) ⟨i + 1, ks ++ [K.msg m], rfl, by omega, ?_, ⟨by simp [upd, f1], by simp [upd2, b0, b1, dSub], _, by simp [upd]; rfl, fun _ => by simp [upd]⟩, ?_⟩
              · rw [hks, hmE, List.take_succ_eq_append_getElem hil, List.map_append]; (try rw [← List.append_assoc]); rfl
              · simp [upd]; rw [w64 (by omega) (by omega)]
            · have hil : ¬ i < x.queue.length := by simpa [wk, vk, ek, ok, f1, b1, f3, f5] using hct63
              rw [List.take_of_length_le (by omega)] at hks
              have hq_0 := textB_len x.name (by have := hx.name; omega)
              have hq_1 := textB_len x.topic (by have := hx.topic; omega)
              have hq_2 := textB_len x.want (by have := hx.want; omega)
              have hq_3 := numB_len8 (n := x.lease) (by have := hx.lease; omega)
              have hq_4 := numB_len8 (n := x.most) (by have := hx.most; omega)
              have hq_5 := numB_len8 (n := x.floor) (by have := hx.floor; omega)
              refine CW_ex ?_
              refine hX2 _ ?_
              refine CW_reg fun K_ hK => ?_
              simp [wk, vk, ek, ok, lk, er_oK, er_dRows, buildD, fillD, thr, f1, b1, f3]
              refine CallT_use (ntext86 (by have := hx.name; omega)) ?_
              simp [wk, vk, ek, ok, lk, er_oK, er_dRows, buildD, fillD, thr, f1, b1, f3]
              refine CallT_use (otext86 (by simp [upd]) (by have := hx.topic; omega) (by (try simp); omega)) ?_
              simp [wk, vk, ek, ok, lk, er_oK, er_dRows, buildD, fillD, thr, f1, b1, f3]
              refine CallT_use (otext86 (by simp [upd]) (by have := hx.want; omega) (by (try simp); omega)) ?_
              simp [wk, vk, ek, ok, lk, er_oK, er_dRows, buildD, fillD, thr, f1, b1, f3]
              refine CallT_use (onum87 (by simp [upd]) (by have := hx.lease; omega) (by (try simp); omega)) ?_
              simp [wk, vk, ek, ok, lk, er_oK, er_dRows, buildD, fillD, thr, f1, b1, f3]
              refine CallT_use (onum87 (by simp [upd]) (by have := hx.most; omega) (by (try simp); omega)) ?_
              simp [wk, vk, ek, ok, lk, er_oK, er_dRows, buildD, fillD, thr, f1, b1, f3]
              refine CallT_use (onum87 (by simp [upd]) (by have := hx.floor; omega) (by (try simp); omega)) ?_
              simp [wk, vk, ek, ok, lk, er_oK, er_dRows, buildD, fillD, thr, f1, b1, f3]
              refine CallW_use (row84 L (t := 115) (seq := 0) (by decide) (by have := hx.id; omega) (by decide)) ?_
              simp [wk, vk, ek, ok, lk, er_oK, er_dRows, buildD, fillD, thr, f1, b1, f3]
              refine AppW_use (app_K (row13 x) ks (K.sub) g rfl (fun h => by simpa [upd] using htp h) (by omega)) ?_
              simp [wk, vk, ek, ok, lk, er_oK, er_dRows, buildD, fillD, thr, f1, b1, f3]
              refine hK _ ?_
              refine CW_seq1 ?_
              refine CW_reg fun K_ hK => ?_
              simp [wk, vk, ek, ok, lk, er_oK, er_dRows, buildD, fillD, thr, f1, b1, f3]
              refine hK _ ?_
              refine CW_for (fun j τ => ∃ (i : Nat) (ks : List K), j = x.queue.length - i ∧ i ≤ x.queue.length ∧ ks = (gz x.acks ++ x.queue.map K.body) ++ nz x.note K.note ++ x.queue.map K.msg ++ [K.sub] ++ (x.queue.take i).flatMap mz ∧ EncI x (row13 x) ks τ ∧ τ.fr 7 = .i .i64 i) (x.queue.length) ?_ ?_
              · exact ⟨0, ks ++ [K.sub], rfl, by omega, by simp [hks], ⟨by simp [upd, f1], by simp [upd2, b0, b1, dSub], _, by simp [upd]; rfl, fun _ => by simp [upd]⟩, by simp [upd]⟩
              · rintro j ⟨fr, bx, tp, c⟩ ⟨i, ks, rfl, hi, hks, ⟨f1, b1, g, f3, htp⟩, f7⟩ K4 hN4 hX4 hR4 hJ4
                simp only at f1 b1 f3 htp f7
                have b0 := b1
                rw [dSub] at b1
                have hkl : ks.length ≤ 1000 := by have h1 := hx.acks; have h2 := hx.queue; rw [hks]; have hl1 := nz_len x.note K.note; have hl2 := nz_len x.want K.want; have hl3 := gz_len x.acks; have hl4 := mz_len (x.queue.take i); have hqn := hx.queue; have han := hx.acks; simp only [List.length_append, List.length_map, List.length_take, List.length_cons, List.length_nil] at hl4 ⊢; omega
                have hqn := hx.queue
                have han := hx.acks
                refine CW_seq1 ?_
                refine CW_reg fun K_ hK => ?_
                simp [wk, vk, ek, ok, lk, er_oK, er_dRows, buildD, fillD, thr, f1, b1, f3, f7]
                refine hK _ ?_
                refine CW_cond rfl (fun hct119 => ?_) (fun hct119 => ?_)
                · have hil : i < x.queue.length := by simpa [wk, vk, ek, ok, f1, b1, f3, f7] using hct119
                  have hm := hx.msgs _ (List.getElem_mem hil)
                  obtain ⟨m, hmE⟩ : ∃ m, m = x.queue[i] := ⟨_, rfl⟩
                  rw [← hmE] at hm
                  have hq_0 := numB_len8 (n := m.prio) (by have := hm.prio; omega)
                  have hq_1 := numB_len8 (n := (deathN m)) (by have := deathN_le m; omega)
                  refine CW_sk ?_
                  refine CW_seq1 ?_
                  refine CW_blk fun K5 hn5 hx5 hr5 hj5 => ?_
                  refine CW_reg fun K_ hK => ?_
                  simp [wk, vk, ek, ok, lk, er_oK, er_dRows, buildD, fillD, thr, f1, b1, f3, f7, hil, dMsg, ← hmE]
                  refine hK _ ?_
                  by_cases hp : m.prio = 0
                  · have hpi : ((m.prio : Int) != 0) = false := by rw [hp]; rfl
                    refine CW_reg fun K_ hK => ?_
                    simp [wk, vk, ek, ok, lk, er_oK, er_dRows, buildD, fillD, thr, f1, b1, f3, f7, hil, dMsg, ← hmE, hpi]
                    refine hK _ ?_
                    refine CW_cond rfl (fun hct133 => ?_) (fun hct133 => ?_)
                    · have hd : m.dead = true := by simpa using hct133
                      have hmz : mz m = [K.more m] := if_neg (by simp [hd])
                      refine CW_reg1 fun K_ hK => ?_
                      simp [wk, vk, ek, ok, lk, er_oK, er_dRows, buildD, fillD, thr, f1, b1, f3, f7, hil, dMsg, ← hmE, hpi]
                      refine CallT_use (nnum87 (by have := hm.prio; omega)) ?_
                      simp [wk, vk, ek, ok, lk, er_oK, er_dRows, buildD, fillD, thr, f1, b1, f3, f7, hil, dMsg, ← hmE, hpi]
                      refine CallW_use (death89 m) ?_
                      simp [wk, vk, ek, ok, lk, er_oK, er_dRows, buildD, fillD, thr, f1, b1, f3, f7, hil, dMsg, ← hmE, hpi]
                      refine CallT_use (onum87 (by simp [upd]) (by have := deathN_le m; omega) (by (try simp); omega)) ?_
                      simp [wk, vk, ek, ok, lk, er_oK, er_dRows, buildD, fillD, thr, f1, b1, f3, f7, hil, dMsg, ← hmE, hpi]
                      refine CallW_use (row84 L (t := 120) (seq := m.seq) (by decide) (by have := hx.id; omega) (by have := hm.seq; omega)) ?_
                      simp [wk, vk, ek, ok, lk, er_oK, er_dRows, buildD, fillD, thr, f1, b1, f3, f7, hil, dMsg, ← hmE, hpi]
                      refine AppW_use (app_K (row13 x) ks (K.more m) g rfl (fun h => by simpa [upd] using htp h) (by omega)) ?_
                      simp [wk, vk, ek, ok, lk, er_oK, er_dRows, buildD, fillD, thr, f1, b1, f3, f7, hil, dMsg, ← hmE, hpi]
                      refine hK _ ?_
                      refine hn5 _ ?_
                      refine CW_reg1 fun K_ hK => ?_
                      simp [wk, vk, ek, ok, lk, er_oK, er_dRows, buildD, fillD, thr, f1, b1, f3, f7, hil, dMsg, ← hmE, hpi]
                      refine hK _ ?_
                      refine hN4 (x.queue.length - (i + 1)) _ (by omega) ⟨i + 1, ks ++ [K.more m], rfl, by omega, ?_, ⟨by simp [upd, f1], by simp [upd2, b0, b1, dSub], _, by simp [upd]; rfl, fun _ => by simp [upd]⟩, ?_⟩
                      · rw [hks, List.take_succ_eq_append_getElem hil, List.flatMap_append, ← List.append_assoc, List.flatMap_cons, List.flatMap_nil, List.append_nil, ← hmE, hmz]
                      · simp [upd]; rw [w64 (by omega) (by omega)]
                    · have hd : m.dead = false := by simpa using hct133
                      have hmz : mz m = [] := if_pos ⟨hp, hd⟩
                      refine CW_sk ?_
                      refine hn5 _ ?_
                      refine CW_reg1 fun K_ hK => ?_
                      simp [wk, vk, ek, ok, lk, er_oK, er_dRows, buildD, fillD, thr, f1, b1, f3, f7, hil, dMsg, ← hmE, hpi]
                      refine hK _ ?_
                      refine hN4 (x.queue.length - (i + 1)) _ (by omega) ⟨i + 1, ks, rfl, by omega, ?_, ⟨by simp [upd, f1], by simp [upd2, b0, b1, dSub], g, by simp [upd, f3], fun h => by simpa [upd] using htp h⟩, ?_⟩
                      · rw [hks, List.take_succ_eq_append_getElem hil, List.flatMap_append, ← List.append_assoc, List.flatMap_cons, List.flatMap_nil, List.append_nil, ← hmE, hmz, List.append_nil]
                      · simp [upd]; rw [w64 (by omega) (by omega)]
                  · have hmz : mz m = [K.more m] := if_neg (by simp [hp])
                    have hpi : ((m.prio : Int) != 0) = true := by simp; omega
                    refine CW_reg fun K_ hK => ?_
                    simp [wk, vk, ek, ok, lk, er_oK, er_dRows, buildD, fillD, thr, f1, b1, f3, f7, hil, dMsg, ← hmE, hpi]
                    refine hK _ ?_
                    refine CW_yes rfl ?_
                    refine CW_reg1 fun K_ hK => ?_
                    simp [wk, vk, ek, ok, lk, er_oK, er_dRows, buildD, fillD, thr, f1, b1, f3, f7, hil, dMsg, ← hmE, hpi]
                    refine CallT_use (nnum87 (by have := hm.prio; omega)) ?_
                    simp [wk, vk, ek, ok, lk, er_oK, er_dRows, buildD, fillD, thr, f1, b1, f3, f7, hil, dMsg, ← hmE, hpi]
                    refine CallW_use (death89 m) ?_
                    simp [wk, vk, ek, ok, lk, er_oK, er_dRows, buildD, fillD, thr, f1, b1, f3, f7, hil, dMsg, ← hmE, hpi]
                    refine CallT_use (onum87 (by simp [upd]) (by have := deathN_le m; omega) (by (try simp); omega)) ?_
                    simp [wk, vk, ek, ok, lk, er_oK, er_dRows, buildD, fillD, thr, f1, b1, f3, f7, hil, dMsg, ← hmE, hpi]
                    refine CallW_use (row84 L (t := 120) (seq := m.seq) (by decide) (by have := hx.id; omega) (by have := hm.seq; omega)) ?_
                    simp [wk, vk, ek, ok, lk, er_oK, er_dRows, buildD, fillD, thr, f1, b1, f3, f7, hil, dMsg, ← hmE, hpi]
                    refine AppW_use (app_K (row13 x) ks (K.more m) g rfl (fun h => by simpa [upd] using htp h) (by omega)) ?_
                    simp [wk, vk, ek, ok, lk, er_oK, er_dRows, buildD, fillD, thr, f1, b1, f3, f7, hil, dMsg, ← hmE, hpi]
                    refine hK _ ?_
                    refine hn5 _ ?_
                    refine CW_reg1 fun K_ hK => ?_
                    simp [wk, vk, ek, ok, lk, er_oK, er_dRows, buildD, fillD, thr, f1, b1, f3, f7, hil, dMsg, ← hmE, hpi]
                    refine hK _ ?_
                    refine hN4 (x.queue.length - (i + 1)) _ (by omega) ⟨i + 1, ks ++ [K.more m], rfl, by omega, ?_, ⟨by simp [upd, f1], by simp [upd2, b0, b1, dSub], _, by simp [upd]; rfl, fun _ => by simp [upd]⟩, ?_⟩
                    · rw [hks, List.take_succ_eq_append_getElem hil, List.flatMap_append, ← List.append_assoc, List.flatMap_cons, List.flatMap_nil, List.append_nil, ← hmE, hmz]
                    · simp [upd]; rw [w64 (by omega) (by omega)]
                · have hil : ¬ i < x.queue.length := by simpa [wk, vk, ek, ok, f1, b1, f3, f7] using hct119
                  rw [List.take_of_length_le (by omega)] at hks
                  refine CW_ex ?_
                  refine hX4 _ ?_
                  refine CW_reg fun K_ hK => ?_
                  simp [wk, vk, ek, ok, lk, er_oK, er_dRows, buildD, fillD, thr, f1, b1, f3]
                  refine hK _ ?_
                  refine CW_rt ?_
                  refine ends_ret ?_
                  simp [Tryz.results51, resD, resL, resD1, vk, wk, ok, lk, er_oK, er_dRows, buildD, fillD, ek, kinds13, hks, f1, b1, f3]
theorem enc50 (L : Laid W) (x : Sub) (hx : SubOK x) : Fc T W 50 [dSub x] (dRows ((kinds12 x).map (row12 x))) := by
  refine Fc_intro (thr := thr) hmix Tryz.func50 rfl (by kernel_rfl) (by simp [Tryz.ntmps50]) ?_
  refine CW_reg fun K_ hK => ?_
  simp [wk, vk, ek, ok, lk, er_oK, er_dRows, buildD, fillD, thr, dSub]
  refine hK _ ?_
  refine CW_reg fun K_ hK => ?_
  simp [wk, vk, ek, ok, lk, er_oK, er_dRows, buildD, fillD, thr, dSub]
  refine hK _ ?_
  refine CW_seq1 ?_
  refine CW_reg fun K_ hK => ?_
  simp [wk, vk, ek, ok, lk, er_oK, er_dRows, buildD, fillD, thr, dSub]
  refine hK _ ?_
  refine CW_for (fun j τ => ∃ (i : Nat) (ks : List K), j = x.acks.length - i ∧ i ≤ x.acks.length ∧ ks = (x.acks.take i).map K.ack ∧ EncI x (row12 x) ks τ ∧ τ.fr 4 = .i .i64 i) (x.acks.length) ?_ ?_
  · exact ⟨0, [], rfl, by omega, by simp, ⟨by simp [upd], by simp [upd2, dSub], 0, by simp [upd]; rfl, fun h => absurd rfl h⟩, by simp [upd]⟩
  · rintro j ⟨fr, bx, tp, c⟩ ⟨i, ks, rfl, hi, hks, ⟨f1, b1, g, f3, htp⟩, f4⟩ K0 hN0 hX0 hR0 hJ0
    simp only at f1 b1 f3 htp f4
    have b0 := b1
    rw [dSub] at b1
    have hkl : ks.length ≤ 1000 := by have h1 := hx.acks; have h2 := hx.queue; rw [hks]; have hl1 := nz_len x.note K.note; have hl2 := nz_len x.want K.want; have hl3 := gz_len x.acks; have hl4 := mz_len (x.queue.take i); have hqn := hx.queue; have han := hx.acks; simp only [List.length_append, List.length_map, List.length_take, List.length_cons, List.length_nil] at hl4 ⊢; omega
    have hqn := hx.queue
    have han := hx.acks
    refine CW_seq1 ?_
    refine CW_reg fun K_ hK => ?_
    simp [wk, vk, ek, ok, lk, er_oK, er_dRows, buildD, fillD, thr, f1, b1, f3, f4]
    refine hK _ ?_
    refine CW_cond rfl (fun hct13 => ?_) (fun hct13 => ?_)
    · have hil : i < x.acks.length := by simpa [wk, vk, ek, ok, f1, b1, f3, f4] using hct13
      refine CW_sk ?_
      refine CW_seq1 ?_
      refine CW_blk fun K1 hn1 hx1 hr1 hj1 => ?_
      refine CW_reg1 fun K_ hK => ?_
      simp [wk, vk, ek, ok, lk, er_oK, er_dRows, buildD, fillD, thr, f1, b1, f3, f4, hil, dMsg]
      refine CallW_use (row79 L (t := 97) (seq := x.acks[i]) (b := []) (by decide) (by have := hx.id; omega) (by have := hx.ackle _ (List.getElem_mem hil); omega)) ?_
      simp [wk, vk, ek, ok, lk, er_oK, er_dRows, buildD, fillD, thr, f1, b1, f3, f4, hil, dMsg]
      refine AppW_use (app_K (row12 x) ks (K.ack x.acks[i]) g rfl (fun h => by simpa [upd] using htp h) (by omega)) ?_
      simp [wk, vk, ek, ok, lk, er_oK, er_dRows, buildD, fillD, thr, f1, b1, f3, f4, hil, dMsg]
      refine hK _ ?_
      refine hn1 _ ?_
      refine CW_reg1 fun K_ hK => ?_
      simp [wk, vk, ek, ok, lk, er_oK, er_dRows, buildD, fillD, thr, f1, b1, f3, f4, hil, dMsg]
      refine hK _ ?_
      refine hN0 (x.acks.length - (i + 1)) _ (by omega) ⟨i + 1, ks ++ [K.ack x.acks[i]], rfl, by omega, ?_, ⟨by simp [upd, f1], by simp [upd2, b0, b1, dSub], _, by simp [upd]; rfl, fun _ => by simp [upd]⟩, ?_⟩
      · rw [hks, List.take_succ_eq_append_getElem hil, List.map_append]; (try rw [← List.append_assoc]); rfl
      · simp [upd]; rw [w64 (by omega) (by omega)]
    · have hil : ¬ i < x.acks.length := by simpa [wk, vk, ek, ok, f1, b1, f3, f4] using hct13
      rw [List.take_of_length_le (by omega)] at hks
      refine CW_ex ?_
      refine hX0 _ ?_
      refine CW_join (EncI x (row12 x) ((x.acks.map K.ack) ++ nz x.note K.note)) (fun Kj6 hKn6 hKx6 => ?_) ?_
      · refine CW_reg fun K_ hK => ?_
        simp [wk, vk, ek, ok, lk, er_oK, er_dRows, buildD, fillD, thr, f1, b1, f3]
        refine hK _ ?_
        refine CW_cond rfl (fun hct29 => ?_) (fun hct29 => ?_)
        · have hne : ¬ x.note = [] := by simpa [wk, vk, ek, ok, f1, b1, f3] using hct29
          refine CW_reg1 fun K_ hK => ?_
          simp [wk, vk, ek, ok, lk, er_oK, er_dRows, buildD, fillD, thr, f1, b1, f3]
          refine CallT_use (ntext80 (by have := hx.note; omega)) ?_
          simp [wk, vk, ek, ok, lk, er_oK, er_dRows, buildD, fillD, thr, f1, b1, f3]
          refine CallW_use (row79 L (t := 110) (seq := 0) (by decide) (by have := hx.id; omega) (by decide)) ?_
          simp [wk, vk, ek, ok, lk, er_oK, er_dRows, buildD, fillD, thr, f1, b1, f3]
          refine AppW_use (app_K (row12 x) ks (K.note) g rfl (fun h => by simpa [upd] using htp h) (by omega)) ?_
          simp [wk, vk, ek, ok, lk, er_oK, er_dRows, buildD, fillD, thr, f1, b1, f3]
          refine hK _ ?_
          refine hKn6 _ ?_
          rw [show (x.acks.map K.ack) ++ nz x.note K.note = ks ++ [K.note] by rw [hks, show nz x.note K.note = [K.note] from if_neg hne]]
          refine ⟨by simp [upd, f1], by simp [upd2, b0, b1, dSub], _, by simp [upd]; rfl, fun _ => by simp [upd]⟩
        · have hne : x.note = [] := by simpa [wk, vk, ek, ok, f1, b1, f3] using hct29
          refine CW_sk ?_
          refine hKn6 _ ?_
          rw [show (x.acks.map K.ack) ++ nz x.note K.note = ks by rw [hks, show nz x.note K.note = [] from if_pos hne]; simp]
          refine ⟨by simp [upd, f1], by simp [upd2, b0, b1, dSub], g, by simp [upd, f3], fun h => by simpa [upd] using htp h⟩
      · rintro ⟨fr, bx, tp, c⟩ ⟨f1, b1, g, f3, htp⟩
        simp only at f1 b1 f3 htp
        have b0 := b1
        rw [dSub] at b1
        refine CW_seq1 ?_
        refine CW_reg fun K_ hK => ?_
        simp [wk, vk, ek, ok, lk, er_oK, er_dRows, buildD, fillD, thr, f1, b1, f3]
        refine hK _ ?_
        refine CW_for (fun j τ => ∃ (i : Nat) (ks : List K), j = x.queue.length - i ∧ i ≤ x.queue.length ∧ ks = (x.acks.map K.ack) ++ nz x.note K.note ++ (x.queue.take i).map K.msg ∧ EncI x (row12 x) ks τ ∧ τ.fr 5 = .i .i64 i) (x.queue.length) ?_ ?_
        · exact ⟨0, (x.acks.map K.ack) ++ nz x.note K.note, rfl, by omega, by simp, ⟨by simp [upd, f1], by simp [upd2, b0], g, by simp [upd, f3], fun h => htp h⟩, by simp [upd]⟩
        · rintro j ⟨fr, bx, tp, c⟩ ⟨i, ks, rfl, hi, hks, ⟨f1, b1, g, f3, htp⟩, f5⟩ K2 hN2 hX2 hR2 hJ2
          simp only at f1 b1 f3 htp f5
          have b0 := b1
          rw [dSub] at b1
          have hkl : ks.length ≤ 1000 := by have h1 := hx.acks; have h2 := hx.queue; rw [hks]; have hl1 := nz_len x.note K.note; have hl2 := nz_len x.want K.want; have hl3 := gz_len x.acks; have hl4 := mz_len (x.queue.take i); have hqn := hx.queue; have han := hx.acks; simp only [List.length_append, List.length_map, List.length_take, List.length_cons, List.length_nil] at hl4 ⊢; omega
          have hqn := hx.queue
          have han := hx.acks
          refine CW_seq1 ?_
          refine CW_reg fun K_ hK => ?_
          simp [wk, vk, ek, ok, lk, er_oK, er_dRows, buildD, fillD, thr, f1, b1, f3, f5]
          refine hK _ ?_
          refine CW_cond rfl (fun hct43 => ?_) (fun hct43 => ?_)
          · have hil : i < x.queue.length := by simpa [wk, vk, ek, ok, f1, b1, f3, f5] using hct43
            have hm := hx.msgs _ (List.getElem_mem hil)
            obtain ⟨m, hmE⟩ : ∃ m, m = x.queue[i] := ⟨_, rfl⟩
            rw [← hmE] at hm
            have hq_0 := textB_len m.body (by have := hm.body; omega)
            have hq_1 := textB_len m.attr (by have := hm.attr; omega)
            have hq_2 := numB_len8 (n := m.tries) (by have := hm.tries; omega)
            have hq_3 := numB_len8 (n := m.til) (by have := hm.til; omega)
            have hq_4 := numB_len8 (n := (isDead m)) (by have := isDead_le m; omega)
            refine CW_sk ?_
            refine CW_seq1 ?_
            refine CW_blk fun K3 hn3 hx3 hr3 hj3 => ?_
            refine CW_reg fun K_ hK => ?_
            simp [wk, vk, ek, ok, lk, er_oK, er_dRows, buildD, fillD, thr, f1, b1, f3, f5, hil, dMsg, ← hmE]
            refine hK _ ?_
            refine CW_reg1 fun K_ hK => ?_
            simp [wk, vk, ek, ok, lk, er_oK, er_dRows, buildD, fillD, thr, f1, b1, f3, f5, hil, dMsg, ← hmE]
            refine CallT_use (ntext80 (by have := hm.body; omega)) ?_
            simp [wk, vk, ek, ok, lk, er_oK, er_dRows, buildD, fillD, thr, f1, b1, f3, f5, hil, dMsg, ← hmE]
            refine CallT_use (otext80 (by simp [upd]) (by have := hm.attr; omega) (by (try simp); omega)) ?_
            simp [wk, vk, ek, ok, lk, er_oK, er_dRows, buildD, fillD, thr, f1, b1, f3, f5, hil, dMsg, ← hmE]
            refine CallT_use (onum81 (by simp [upd]) (by have := hm.tries; omega) (by (try simp); omega)) ?_
            simp [wk, vk, ek, ok, lk, er_oK, er_dRows, buildD, fillD, thr, f1, b1, f3, f5, hil, dMsg, ← hmE]
            refine CallT_use (onum81 (by simp [upd]) (by have := hm.til; omega) (by (try simp); omega)) ?_
            simp [wk, vk, ek, ok, lk, er_oK, er_dRows, buildD, fillD, thr, f1, b1, f3, f5, hil, dMsg, ← hmE]
            refine CallW_use (dead82 m) ?_
            simp [wk, vk, ek, ok, lk, er_oK, er_dRows, buildD, fillD, thr, f1, b1, f3, f5, hil, dMsg, ← hmE]
            refine CallT_use (onum81 (by simp [upd]) (by have := isDead_le m; omega) (by (try simp); omega)) ?_
            simp [wk, vk, ek, ok, lk, er_oK, er_dRows, buildD, fillD, thr, f1, b1, f3, f5, hil, dMsg, ← hmE]
            refine CallW_use (row79 L (t := 113) (seq := m.seq) (by decide) (by have := hx.id; omega) (by have := hm.seq; omega)) ?_
            simp [wk, vk, ek, ok, lk, er_oK, er_dRows, buildD, fillD, thr, f1, b1, f3, f5, hil, dMsg, ← hmE]
            refine AppW_use (app_K (row12 x) ks (K.msg m) g rfl (fun h => by simpa [upd] using htp h) (by omega)) ?_
            simp [wk, vk, ek, ok, lk, er_oK, er_dRows, buildD, fillD, thr, f1, b1, f3, f5, hil, dMsg, ← hmE]
            refine hK _ ?_
            refine hn3 _ ?_
            refine CW_reg1 fun K_ hK => ?_
            simp [wk, vk, ek, ok, lk, er_oK, er_dRows, buildD, fillD, thr, f1, b1, f3, f5, hil, dMsg, ← hmE]
            refine hK _ ?_
            refine hN2 (x.queue.length - (i + 1)) _ (by omega) ⟨i + 1, ks ++ [K.msg m], rfl, by omega, ?_, ⟨by simp [upd, f1], by simp [upd2, b0, b1, dSub], _, by simp [upd]; rfl, fun _ => by simp [upd]⟩, ?_⟩
            · rw [hks, hmE, List.take_succ_eq_append_getElem hil, List.map_append]; (try rw [← List.append_assoc]); rfl
            · simp [upd]; rw [w64 (by omega) (by omega)]
          · have hil : ¬ i < x.queue.length := by simpa [wk, vk, ek, ok, f1, b1, f3, f5] using hct43
            rw [List.take_of_length_le (by omega)] at hks
            have hq_0 := textB_len x.name (by have := hx.name; omega)
            have hq_1 := textB_len x.topic (by have := hx.topic; omega)
            have hq_2 := numB_len8 (n := x.lease) (by have := hx.lease; omega)
            have hq_3 := numB_len8 (n := x.most) (by have := hx.most; omega)
            have hq_4 := numB_len8 (n := x.floor) (by have := hx.floor; omega)
            refine CW_ex ?_
            refine hX2 _ ?_
            refine CW_reg fun K_ hK => ?_
            simp [wk, vk, ek, ok, lk, er_oK, er_dRows, buildD, fillD, thr, f1, b1, f3]
            refine CallT_use (ntext80 (by have := hx.name; omega)) ?_
            simp [wk, vk, ek, ok, lk, er_oK, er_dRows, buildD, fillD, thr, f1, b1, f3]
            refine CallT_use (otext80 (by simp [upd]) (by have := hx.topic; omega) (by (try simp); omega)) ?_
            simp [wk, vk, ek, ok, lk, er_oK, er_dRows, buildD, fillD, thr, f1, b1, f3]
            refine CallT_use (onum81 (by simp [upd]) (by have := hx.lease; omega) (by (try simp); omega)) ?_
            simp [wk, vk, ek, ok, lk, er_oK, er_dRows, buildD, fillD, thr, f1, b1, f3]
            refine CallT_use (onum81 (by simp [upd]) (by have := hx.most; omega) (by (try simp); omega)) ?_
            simp [wk, vk, ek, ok, lk, er_oK, er_dRows, buildD, fillD, thr, f1, b1, f3]
            refine CallT_use (onum81 (by simp [upd]) (by have := hx.floor; omega) (by (try simp); omega)) ?_
            simp [wk, vk, ek, ok, lk, er_oK, er_dRows, buildD, fillD, thr, f1, b1, f3]
            refine CallW_use (row79 L (t := 115) (seq := 0) (by decide) (by have := hx.id; omega) (by decide)) ?_
            simp [wk, vk, ek, ok, lk, er_oK, er_dRows, buildD, fillD, thr, f1, b1, f3]
            refine AppW_use (app_K (row12 x) ks (K.sub) g rfl (fun h => by simpa [upd] using htp h) (by omega)) ?_
            simp [wk, vk, ek, ok, lk, er_oK, er_dRows, buildD, fillD, thr, f1, b1, f3]
            refine hK _ ?_
            refine CW_join (EncI x (row12 x) ((x.acks.map K.ack) ++ nz x.note K.note ++ x.queue.map K.msg ++ [K.sub] ++ nz x.want K.want)) (fun Kj14 hKn14 hKx14 => ?_) ?_
            · refine CW_reg fun K_ hK => ?_
              simp [wk, vk, ek, ok, lk, er_oK, er_dRows, buildD, fillD, thr, f1, b1, f3]
              refine hK _ ?_
              refine CW_cond rfl (fun hct97 => ?_) (fun hct97 => ?_)
              · have hne : ¬ x.want = [] := by simpa [wk, vk, ek, ok, f1, b1, f3] using hct97
                refine CW_reg1 fun K_ hK => ?_
                simp [wk, vk, ek, ok, lk, er_oK, er_dRows, buildD, fillD, thr, f1, b1, f3]
                refine CallT_use (ntext80 (by have := hx.want; omega)) ?_
                simp [wk, vk, ek, ok, lk, er_oK, er_dRows, buildD, fillD, thr, f1, b1, f3]
                refine CallW_use (row79 L (t := 119) (seq := 0) (by decide) (by have := hx.id; omega) (by decide)) ?_
                simp [wk, vk, ek, ok, lk, er_oK, er_dRows, buildD, fillD, thr, f1, b1, f3]
                refine AppW_use (app_K (row12 x) (ks ++ [K.sub]) K.want _ rfl (fun h => by simp [upd]) (by simp; omega)) ?_
                simp [wk, vk, ek, ok, lk, er_oK, er_dRows, buildD, fillD, thr, f1, b1, f3]
                refine hK _ ?_
                refine hKn14 _ ?_
                rw [show (x.acks.map K.ack) ++ nz x.note K.note ++ x.queue.map K.msg ++ [K.sub] ++ nz x.want K.want = ks ++ [K.sub] ++ [K.want] by rw [hks, show nz x.want K.want = [K.want] from if_neg hne]]
                refine ⟨by simp [upd, f1], by simp [upd2, b0, b1, dSub], _, by simp [upd]; rfl, fun _ => by simp [upd]⟩
              · have hne : x.want = [] := by simpa [wk, vk, ek, ok, f1, b1, f3] using hct97
                refine CW_sk ?_
                refine hKn14 _ ?_
                rw [show (x.acks.map K.ack) ++ nz x.note K.note ++ x.queue.map K.msg ++ [K.sub] ++ nz x.want K.want = ks ++ [K.sub] by rw [hks, show nz x.want K.want = [] from if_pos hne]; simp]
                refine ⟨by simp [upd, f1], by simp [upd2, b0, b1, dSub], _, by simp [upd]; rfl, fun _ => by simp [upd]⟩
            · rintro ⟨fr, bx, tp, c⟩ ⟨f1, b1, g, f3, htp⟩
              simp only at f1 b1 f3 htp
              have b0 := b1
              rw [dSub] at b1
              refine CW_seq1 ?_
              refine CW_reg fun K_ hK => ?_
              simp [wk, vk, ek, ok, lk, er_oK, er_dRows, buildD, fillD, thr, f1, b1, f3]
              refine hK _ ?_
              refine CW_for (fun j τ => ∃ (i : Nat) (ks : List K), j = x.queue.length - i ∧ i ≤ x.queue.length ∧ ks = (x.acks.map K.ack) ++ nz x.note K.note ++ x.queue.map K.msg ++ [K.sub] ++ nz x.want K.want ++ (x.queue.take i).flatMap mz ∧ EncI x (row12 x) ks τ ∧ τ.fr 7 = .i .i64 i) (x.queue.length) ?_ ?_
              · exact ⟨0, (x.acks.map K.ack) ++ nz x.note K.note ++ x.queue.map K.msg ++ [K.sub] ++ nz x.want K.want, rfl, by omega, by simp, ⟨by simp [upd, f1], by simp [upd2, b0], g, by simp [upd, f3], fun h => htp h⟩, by simp [upd]⟩
              · rintro j ⟨fr, bx, tp, c⟩ ⟨i, ks, rfl, hi, hks, ⟨f1, b1, g, f3, htp⟩, f7⟩ K4 hN4 hX4 hR4 hJ4
                simp only at f1 b1 f3 htp f7
                have b0 := b1
                rw [dSub] at b1
                have hkl : ks.length ≤ 1000 := by have h1 := hx.acks; have h2 := hx.queue; rw [hks]; have hl1 := nz_len x.note K.note; have hl2 := nz_len x.want K.want; have hl3 := gz_len x.acks; have hl4 := mz_len (x.queue.take i); have hqn := hx.queue; have han := hx.acks; simp only [List.length_append, List.length_map, List.length_take, List.length_cons, List.length_nil] at hl4 ⊢; omega
                have hqn := hx.queue
                have han := hx.acks
                refine CW_seq1 ?_
                refine CW_reg fun K_ hK => ?_
                simp [wk, vk, ek, ok, lk, er_oK, er_dRows, buildD, fillD, thr, f1, b1, f3, f7]
                refine hK _ ?_
                refine CW_cond rfl (fun hct111 => ?_) (fun hct111 => ?_)
                · have hil : i < x.queue.length := by simpa [wk, vk, ek, ok, f1, b1, f3, f7] using hct111
                  have hm := hx.msgs _ (List.getElem_mem hil)
                  obtain ⟨m, hmE⟩ : ∃ m, m = x.queue[i] := ⟨_, rfl⟩
                  rw [← hmE] at hm
                  have hq_0 := numB_len8 (n := m.prio) (by have := hm.prio; omega)
                  have hq_1 := numB_len8 (n := (deathN m)) (by have := deathN_le m; omega)
                  refine CW_sk ?_
                  refine CW_seq1 ?_
                  refine CW_blk fun K5 hn5 hx5 hr5 hj5 => ?_
                  refine CW_reg fun K_ hK => ?_
                  simp [wk, vk, ek, ok, lk, er_oK, er_dRows, buildD, fillD, thr, f1, b1, f3, f7, hil, dMsg, ← hmE]
                  refine hK _ ?_
                  by_cases hp : m.prio = 0
                  · have hpi : ((m.prio : Int) != 0) = false := by rw [hp]; rfl
                    refine CW_reg fun K_ hK => ?_
                    simp [wk, vk, ek, ok, lk, er_oK, er_dRows, buildD, fillD, thr, f1, b1, f3, f7, hil, dMsg, ← hmE, hpi]
                    refine hK _ ?_
                    refine CW_cond rfl (fun hct125 => ?_) (fun hct125 => ?_)
                    · have hd : m.dead = true := by simpa using hct125
                      have hmz : mz m = [K.more m] := if_neg (by simp [hd])
                      refine CW_reg1 fun K_ hK => ?_
                      simp [wk, vk, ek, ok, lk, er_oK, er_dRows, buildD, fillD, thr, f1, b1, f3, f7, hil, dMsg, ← hmE, hpi]
                      refine CallT_use (nnum81 (by have := hm.prio; omega)) ?_
                      simp [wk, vk, ek, ok, lk, er_oK, er_dRows, buildD, fillD, thr, f1, b1, f3, f7, hil, dMsg, ← hmE, hpi]
                      refine CallW_use (death83 m) ?_
                      simp [wk, vk, ek, ok, lk, er_oK, er_dRows, buildD, fillD, thr, f1, b1, f3, f7, hil, dMsg, ← hmE, hpi]
                      refine CallT_use (onum81 (by simp [upd]) (by have := deathN_le m; omega) (by (try simp); omega)) ?_
                      simp [wk, vk, ek, ok, lk, er_oK, er_dRows, buildD, fillD, thr, f1, b1, f3, f7, hil, dMsg, ← hmE, hpi]
                      refine CallW_use (row79 L (t := 120) (seq := m.seq) (by decide) (by have := hx.id; omega) (by have := hm.seq; omega)) ?_
                      simp [wk, vk, ek, ok, lk, er_oK, er_dRows, buildD, fillD, thr, f1, b1, f3, f7, hil, dMsg, ← hmE, hpi]
                      refine AppW_use (app_K (row12 x) ks (K.more m) g rfl (fun h => by simpa [upd] using htp h) (by omega)) ?_
                      simp [wk, vk, ek, ok, lk, er_oK, er_dRows, buildD, fillD, thr, f1, b1, f3, f7, hil, dMsg, ← hmE, hpi]
                      refine hK _ ?_
                      refine hn5 _ ?_
                      refine CW_reg1 fun K_ hK => ?_
                      simp [wk, vk, ek, ok, lk, er_oK, er_dRows, buildD, fillD, thr, f1, b1, f3, f7, hil, dMsg, ← hmE, hpi]
                      refine hK _ ?_
                      refine hN4 (x.queue.length - (i + 1)) _ (by omega) ⟨i + 1, ks ++ [K.more m], rfl, by omega, ?_, ⟨by simp [upd, f1], by simp [upd2, b0, b1, dSub], _, by simp [upd]; rfl, fun _ => by simp [upd]⟩, ?_⟩
                      · rw [hks, List.take_succ_eq_append_getElem hil, List.flatMap_append, ← List.append_assoc, List.flatMap_cons, List.flatMap_nil, List.append_nil, ← hmE, hmz]
                      · simp [upd]; rw [w64 (by omega) (by omega)]
                    · have hd : m.dead = false := by simpa using hct125
                      have hmz : mz m = [] := if_pos ⟨hp, hd⟩
                      refine CW_sk ?_
                      refine hn5 _ ?_
                      refine CW_reg1 fun K_ hK => ?_
                      simp [wk, vk, ek, ok, lk, er_oK, er_dRows, buildD, fillD, thr, f1, b1, f3, f7, hil, dMsg, ← hmE, hpi]
                      refine hK _ ?_
                      refine hN4 (x.queue.length - (i + 1)) _ (by omega) ⟨i + 1, ks, rfl, by omega, ?_, ⟨by simp [upd, f1], by simp [upd2, b0, b1, dSub], g, by simp [upd, f3], fun h => by simpa [upd] using htp h⟩, ?_⟩
                      · rw [hks, List.take_succ_eq_append_getElem hil, List.flatMap_append, ← List.append_assoc, List.flatMap_cons, List.flatMap_nil, List.append_nil, ← hmE, hmz, List.append_nil]
                      · simp [upd]; rw [w64 (by omega) (by omega)]
                  · have hmz : mz m = [K.more m] := if_neg (by simp [hp])
                    have hpi : ((m.prio : Int) != 0) = true := by simp; omega
                    refine CW_reg fun K_ hK => ?_
                    simp [wk, vk, ek, ok, lk, er_oK, er_dRows, buildD, fillD, thr, f1, b1, f3, f7, hil, dMsg, ← hmE, hpi]
                    refine hK _ ?_
                    refine CW_yes rfl ?_
                    refine CW_reg1 fun K_ hK => ?_
                    simp [wk, vk, ek, ok, lk, er_oK, er_dRows, buildD, fillD, thr, f1, b1, f3, f7, hil, dMsg, ← hmE, hpi]
                    refine CallT_use (nnum81 (by have := hm.prio; omega)) ?_
                    simp [wk, vk, ek, ok, lk, er_oK, er_dRows, buildD, fillD, thr, f1, b1, f3, f7, hil, dMsg, ← hmE, hpi]
                    refine CallW_use (death83 m) ?_
                    simp [wk, vk, ek, ok, lk, er_oK, er_dRows, buildD, fillD, thr, f1, b1, f3, f7, hil, dMsg, ← hmE, hpi]
                    refine CallT_use (onum81 (by simp [upd]) (by have := deathN_le m; omega) (by (try simp); omega)) ?_
                    simp [wk, vk, ek, ok, lk, er_oK, er_dRows, buildD, fillD, thr, f1, b1, f3, f7, hil, dMsg, ← hmE, hpi]
                    refine CallW_use (row79 L (t := 120) (seq := m.seq) (by decide) (by have := hx.id; omega) (by have := hm.seq; omega)) ?_
                    simp [wk, vk, ek, ok, lk, er_oK, er_dRows, buildD, fillD, thr, f1, b1, f3, f7, hil, dMsg, ← hmE, hpi]
                    refine AppW_use (app_K (row12 x) ks (K.more m) g rfl (fun h => by simpa [upd] using htp h) (by omega)) ?_
                    simp [wk, vk, ek, ok, lk, er_oK, er_dRows, buildD, fillD, thr, f1, b1, f3, f7, hil, dMsg, ← hmE, hpi]
                    refine hK _ ?_
                    refine hn5 _ ?_
                    refine CW_reg1 fun K_ hK => ?_
                    simp [wk, vk, ek, ok, lk, er_oK, er_dRows, buildD, fillD, thr, f1, b1, f3, f7, hil, dMsg, ← hmE, hpi]
                    refine hK _ ?_
                    refine hN4 (x.queue.length - (i + 1)) _ (by omega) ⟨i + 1, ks ++ [K.more m], rfl, by omega, ?_, ⟨by simp [upd, f1], by simp [upd2, b0, b1, dSub], _, by simp [upd]; rfl, fun _ => by simp [upd]⟩, ?_⟩
                    · rw [hks, List.take_succ_eq_append_getElem hil, List.flatMap_append, ← List.append_assoc, List.flatMap_cons, List.flatMap_nil, List.append_nil, ← hmE, hmz]
                    · simp [upd]; rw [w64 (by omega) (by omega)]
                · have hil : ¬ i < x.queue.length := by simpa [wk, vk, ek, ok, f1, b1, f3, f7] using hct111
                  rw [List.take_of_length_le (by omega)] at hks
                  refine CW_ex ?_
                  refine hX4 _ ?_
                  refine CW_reg fun K_ hK => ?_
                  simp [wk, vk, ek, ok, lk, er_oK, er_dRows, buildD, fillD, thr, f1, b1, f3]
                  refine hK _ ?_
                  refine CW_rt ?_
                  refine ends_ret ?_
                  simp [Tryz.results50, resD, resL, resD1, vk, wk, ok, lk, er_oK, er_dRows, buildD, fillD, ek, kinds12, hks, f1, b1, f3]
end Go.Proofs.YtobamidecbfgpaaGreatDoor
