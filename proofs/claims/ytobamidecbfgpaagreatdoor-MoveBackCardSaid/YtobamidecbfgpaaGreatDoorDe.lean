/- Decode, over the shadow. No condition. -/
import Derived.Test.YtobamidecbfgpaaGreatDoorFo
namespace Go.Proofs.YtobamidecbfgpaaGreatDoor
open Go Go.Sh Go.RowKit
set_option linter.unusedVariables false
set_option linter.unusedSimpArgs false
set_option maxRecDepth 10000
variable {W : World}
theorem isAg_row (r : Row) : (dRow r).isAg = true := rfl
theorem isAg_msg (r : Msg) : (dMsg r).isAg = true := rfl
theorem isAg_sub (r : Sub) : (dSub r).isAg = true := rfl
def noApp : K → Prop
  | .ack _ => False
  | .msg _ => False
  | _ => True
def ordK : List K → Prop
  | [] => True
  | k :: r => (match k with
      | .sub => ∀ k' ∈ r, noApp k'
      | .more _ => ∀ k' ∈ r, noApp k'
      | _ => True) ∧ ordK r
def KOK : K → Prop
  | .ack a => a ≤ 9999
  | .msg m => MsgOK m
  | .more m => MsgOK m
  | .note => True
  | .sub => True
  | .want => True
  | _ => False
def LabA (r : List K) (o : Option Nat) (tp : Nat → Option (Nat × Nat)) (l : List Nat) : Prop := l.length + r.length ≤ 1000 ∧ ((∃ g, o = some g ∧ (l ≠ [] → tp 41 = some (g, l.length))) ∨ ∀ k ∈ r, noApp k)
def LabQ (r : List K) (o : Option Nat) (tp : Nat → Option (Nat × Nat)) (l : List Msg) : Prop := l.length + r.length ≤ 1000 ∧ ((∃ g, o = some g ∧ (l ≠ [] → tp 42 = some (g, l.length))) ∨ ∀ k ∈ r, noApp k)
theorem LabA.tail {k : K} {r : List K} {o : Option Nat} {tp tp' : Nat → Option (Nat × Nat)} {l : List Nat} (h : LabA (k :: r) o tp l) (e : tp' 41 = tp 41) : LabA r o tp' l :=
  ⟨by have := h.1; simp at this; omega, h.2.imp (fun ⟨g, a, b⟩ => ⟨g, a, fun hn => by rw [e]; exact b hn⟩) (fun h k' hk => h k' (by simp [hk]))⟩
theorem LabQ.tail {k : K} {r : List K} {o : Option Nat} {tp tp' : Nat → Option (Nat × Nat)} {l : List Msg} (h : LabQ (k :: r) o tp l) (e : tp' 42 = tp 42) : LabQ r o tp' l :=
  ⟨by have := h.1; simp at this; omega, h.2.imp (fun ⟨g, a, b⟩ => ⟨g, a, fun hn => by rw [e]; exact b hn⟩) (fun h k' hk => h k' (by simp [hk]))⟩
theorem step12 (L : Laid W) (y : Sub) (hy : SubOK y) (k : K) (r : List K) (x : Sub) (oa oq : Option Nat) (tp : Nat → Option (Nat × Nat)) (c : Nat) (hk : KOK k) (ho : ordK (k :: r)) (ha : LabA (k :: r) oa tp x.acks) (hq : LabQ (k :: r) oq tp x.queue) :
    ∃ oa' oq' tp' c', Ft T W 67 [oSub oa oq x, dRow (row12 y k)] tp c (oSub oa' oq' (put12 y x k)) tp' c' ∧ LabA r oa' tp' (put12 y x k).acks ∧ LabQ r oq' tp' (put12 y x k).queue := by
  have la := ha.1
  have lq := hq.1
  simp only [List.length_cons] at la lq
  cases k with
  | ack a =>
    rcases ha.2 with ⟨g, rfl, hg⟩ | hn
    · exact ⟨_, _, _, _, add67a L x y hy a g oq hk (by omega) tp c hg, ⟨by simp [put12]; omega, .inl ⟨_, rfl, fun _ => by simp [put12, upd]⟩⟩, hq.tail (by simp [upd])⟩
    · exact (hn (K.ack a) List.mem_cons_self).elim
  | note => exact ⟨_, _, _, _, add67n L x y hy oa oq tp c, ha.tail rfl, hq.tail rfl⟩
  | want => exact ⟨_, _, _, _, add67w L x y hy oa oq tp c, ha.tail rfl, hq.tail rfl⟩
  | msg m =>
    rcases hq.2 with ⟨g, rfl, hg⟩ | hn
    · exact ⟨_, _, _, _, add67q L x y hy m hk g oa (by omega) tp c hg, ha.tail (by simp [upd]), ⟨by simp [put12]; omega, .inl ⟨_, rfl, fun _ => by simp [put12, upd]⟩⟩⟩
    · exact (hn (K.msg m) List.mem_cons_self).elim
  | sub => exact ⟨_, _, _, _, add67s L x y hy oa oq tp c, ⟨by show x.acks.length + r.length ≤ 1000; omega, .inr ho.1⟩, ⟨by show x.queue.length + r.length ≤ 1000; omega, .inr ho.1⟩⟩
  | more m => exact ⟨_, _, _, _, add67x L x y hy m hk oa oq (by omega) tp c, ha.tail rfl, ⟨by simp [put12]; omega, .inr ho.1⟩⟩
  | gaps => exact absurd hk id
  | body m => exact absurd hk id
theorem ordK_app : ∀ (a b : List K), (∀ k ∈ a, k ≠ .sub ∧ ∀ m, k ≠ .more m) → ordK b → ordK (a ++ b)
  | [], b, _, hb => hb
  | k :: a, b, h, hb => by
    have h1 := h k (by simp)
    refine ⟨?_, ordK_app a b (fun k hk => h k (by simp [hk])) hb⟩
    cases k <;> simp_all
theorem ordK_no : ∀ (b : List K), (∀ k ∈ b, noApp k) → ordK b
  | [], _ => trivial
  | k :: b, h => by
    refine ⟨?_, ordK_no b fun k hk => h k (by simp [hk])⟩
    cases k <;> simp <;> exact fun k' hk => h k' (by simp [hk])
theorem ord12 (y : Sub) : ordK (kinds12 y) := by
  have e : kinds12 y = (y.acks.map K.ack ++ nz y.note K.note ++ y.queue.map K.msg) ++ (K.sub :: (nz y.want K.want ++ y.queue.flatMap mz)) := by simp [kinds12]
  rw [e]
  have hn : ∀ k ∈ nz y.want K.want ++ y.queue.flatMap mz, noApp k := by
    intro k hk
    simp only [List.mem_append, List.mem_flatMap, nz, mz] at hk
    rcases hk with hk | ⟨a, _, hk⟩
    · split at hk <;> simp at hk; simp [hk, noApp]
    · split at hk <;> simp at hk; simp [hk, noApp]
  refine ordK_app _ _ ?_ ⟨hn, ordK_no _ hn⟩
  intro k hk
  simp only [List.mem_append, List.mem_map, nz] at hk
  rcases hk with (⟨a, _, rfl⟩ | hk) | ⟨a, _, rfl⟩
  · simp
  · split at hk <;> simp at hk; simp [hk]
  · simp
theorem KOK12 (y : Sub) (h : SubOK y) : ∀ k ∈ kinds12 y, KOK k := by
  intro k hk
  rcases kinds12_of y k hk with ⟨a, ha, rfl⟩ | rfl | rfl | rfl | ⟨m, hm, rfl⟩ | ⟨m, hm, rfl⟩
  · exact h.ackle a ha
  · trivial
  · trivial
  · trivial
  · exact h.msgs m hm
  · exact h.msgs m hm
theorem kinds12_len (y : Sub) (h : SubOK y) : (kinds12 y).length ≤ 200 := by
  have h1 := nz_len y.note K.note; have h2 := nz_len y.want K.want; have h3 := mz_len y.queue; have := h.acks; have := h.queue
  simp only [kinds12, List.length_append, List.length_map, List.length_cons, List.length_nil]; omega
theorem kinds13_len (y : Sub) (h : SubOK y) : (kinds13 y).length ≤ 200 := by
  have h1 := nz_len y.note K.note; have h2 := gz_len y.acks; have h3 := mz_len y.queue; have := h.acks; have := h.queue
  simp only [kinds13, List.length_append, List.length_map, List.length_cons, List.length_nil]; omega
theorem kinds14_len (y : Sub) (h : SubOK y) : (kinds14 y).length ≤ 200 := by
  have h2 := gz_len y.acks; have := h.acks; have := h.queue
  simp only [kinds14, List.length_append, List.length_map, List.length_cons, List.length_nil]; omega
/-- Keys that rise, row by row. -/
def Rising (l : List Row) : Prop := ∀ i (h : i + 1 < l.length), Op.bytesLess l[i + 1].key l[i].key = false ∧ (l[i + 1].key == l[i].key) = false
theorem fold_take {α β : Type} (P : α → β → α) (l : List β) (a : α) (i : Nat) (h : i < l.length) : (l.take (i + 1)).foldl P a = P ((l.take i).foldl P a) l[i] := by
  rw [List.take_succ_eq_append_getElem h, List.foldl_append]; rfl
theorem dec43 (L : Laid W) (y : Sub) (hy : SubOK y) (hr : Rising ((kinds12 y).map (row12 y))) : Fc T W 43 [dRows ((kinds12 y).map (row12 y))] (.tu [dSub y, .i .i64 0]) := by
  obtain ⟨ks, hks⟩ : ∃ ks, ks = kinds12 y := ⟨_, rfl⟩
  have hl := kinds12_len y hy
  have ho := ord12 y
  have hkk := KOK12 y hy
  have hf := fold12 y hy
  have henc := enc50 L y hy
  rw [← hks] at hl ho hkk hf hr henc ⊢
  have hl2 : (ks.map (row12 y)).length ≤ 100000 := by simp; omega
  refine Fc_intro (thr := thr) hmix Tryz.func43 rfl (by kernel_rfl) (by simp [Tryz.ntmps43]) ?_
  refine CW_reg fun K_ hK => ?_
  simp [wk, vk, ek, ok, lk, er_oK, er_dRows, buildD, fillD, thr]
  refine hK _ ?_
  refine CW_reg fun K_ hK => ?_
  simp [wk, vk, ek, ok, lk, er_oK, er_dRows, buildD, fillD, thr]
  refine hK _ ?_
  refine CW_seq1 ?_
  refine CW_reg fun K_ hK => ?_
  simp [wk, vk, ek, ok, lk, er_oK, er_dRows, buildD, fillD, thr]
  refine hK _ ?_
  refine CW_for (fun j τ => ∃ (i : Nat) (oa oq : Option Nat) (x : Sub), j = ks.length - i ∧ i ≤ ks.length ∧ x = (ks.take i).foldl (put12 y) z0 ∧ ordK (ks.drop i) ∧ LabA (ks.drop i) oa τ.tp x.acks ∧ LabQ (ks.drop i) oq τ.tp x.queue ∧ τ.fr 0 = dRows (ks.map (row12 y)) ∧ τ.fr 2 = .p 2 0 0 ∧ τ.bx 2 0 = some (dSub z0) ∧ τ.fr 4 = .p 4 1 0 ∧ τ.bx 4 1 = some (oSub oa oq x) ∧ τ.fr 5 = .i .i64 i) (ks.length) ?_ ?_
  · exact ⟨0, some 0, some 0, z0, rfl, by omega, rfl, ho, ⟨by simp [z0]; omega, .inl ⟨0, rfl, fun h => absurd rfl h⟩⟩, ⟨by simp [z0]; omega, .inl ⟨0, rfl, fun h => absurd rfl h⟩⟩, by simp [upd], by simp [upd], by simp [upd2]; rfl, by simp [upd], by simp [upd2]; rfl, by simp [upd]⟩
  · rintro j ⟨fr, bx, tp, c⟩ ⟨i, oa, oq, x, rfl, hi, hx, hod, hla, hlq, f0, f2, b2, f4, b4, f5⟩ K0 hN0 hX0 hR0 hJ0
    simp only at hla hlq f0 f2 b2 f4 b4 f5
    have b2b := b2
    rw [dSub] at b2
    have b4b := b4
    rw [oSub] at b4
    refine CW_seq1 ?_
    refine CW_reg fun K_ hK => ?_
    simp [wk, vk, ek, ok, lk, er_oK, er_dRows, buildD, fillD, thr, f0, f2, b2, f4, b4, f5]
    refine hK _ ?_
    refine CW_cond rfl (fun hct10 => ?_) (fun hct10 => ?_)
    · have hil : i < ks.length := by simpa [wk, vk, ek, ok, f0, f5] using hct10
      rw [List.drop_eq_getElem_cons hil] at hod hla hlq
      obtain ⟨oa', oq', tp', c', hF, hLA, hLQ⟩ := step12 L y hy ks[i] _ x oa oq tp c (hkk _ (List.getElem_mem hil)) hod hla hlq
      refine CW_sk ?_
      refine CW_seq1 ?_
      refine CW_blk fun K1 hn1 hx1 hr1 hj1 => ?_
      refine CW_reg1 fun K_ hK => ?_
      simp [wk, vk, ek, ok, lk, er_oK, er_dRows, buildD, fillD, thr, f0, f2, b2, f4, b4, f5, hil, oSub, isAg_row]
      refine CallT_use (hF) ?_
      simp [wk, vk, ek, ok, lk, er_oK, er_dRows, buildD, fillD, thr, f0, f2, b2, f4, b4, f5, hil, oSub, isAg_row]
      refine hK _ ?_
      refine hn1 _ ?_
      refine CW_reg1 fun K_ hK => ?_
      simp [wk, vk, ek, ok, lk, er_oK, er_dRows, buildD, fillD, thr, f0, f2, b2, f4, b4, f5, hil]
      refine hK _ ?_
      refine hN0 (ks.length - (i + 1)) _ (by omega) ⟨i + 1, oa', oq', _, rfl, by omega, ?_, hod.2, hLA, hLQ, by simp [upd, f0], by simp [upd, f2], by simp [upd2, b2, dSub], by simp [upd, f4], by simp [upd2, oSub], ?_⟩
      · rw [fold_take _ _ _ _ hil, ← hx]
      · simp [upd]; rw [w64 (by omega) (by omega)]
    · have hil : ¬ i < ks.length := by simpa [wk, vk, ek, ok, f0, f5] using hct10
      rw [List.take_of_length_le (by omega), hf] at hx
      subst hx
      refine CW_ex ?_
      refine hX0 _ ?_
      refine CW_seq1 ?_
      refine CW_reg fun K_ hK => ?_
      simp [wk, vk, ek, ok, lk, er_oK, er_dRows, buildD, fillD, thr, f0, f2, b2, f4, b4]
      refine CallW_use (rising68 _ hl2 hr) ?_
      simp [wk, vk, ek, ok, lk, er_oK, er_dRows, buildD, fillD, thr, f0, f2, b2, f4, b4]
      refine CallW_use (henc) ?_
      simp [wk, vk, ek, ok, lk, er_oK, er_dRows, buildD, fillD, thr, f0, f2, b2, f4, b4]
      refine CallW_use (same32 _ hl2) ?_
      simp [wk, vk, ek, ok, lk, er_oK, er_dRows, buildD, fillD, thr, f0, f2, b2, f4, b4]
      refine hK _ ?_
      refine CW_no rfl ?_
      refine CW_sk ?_
      refine CW_reg fun K_ hK => ?_
      simp [wk, vk, ek, ok, lk, er_oK, er_dRows, buildD, fillD, thr, f0, f2, b2, f4, b4]
      refine hK _ ?_
      refine CW_rt ?_
      refine ends_ret ?_
      simp [Tryz.results43, resD, resL, resD1, vk, wk, ok, lk, er_oK, er_dRows, buildD, fillD, ek, dSub, f0, f2, b2, f4, b4]
def KOK13 : K → Prop
  | .body m => MsgOK m
  | .msg m => MsgOK m
  | .more m => MsgOK m
  | .ack _ => False
  | .want => False
  | _ => True
theorem step13 (L : Laid W) (y : Sub) (hy : SubOK y) (k : K) (x : Sub × List Nat) (n : Nat) (hk : KOK13 k) (hl : x.1.queue.length + (n + 1) ≤ 1000) :
    Fc T W 69 [dOf x, dRow (row13 y k)] (dOf (put13 y x k)) ∧ (put13 y x k).1.queue.length + n ≤ 1000 := by
  cases k with
  | gaps => exact ⟨add69a L x y hy, by simp [put13]; omega⟩
  | body m => exact ⟨add69b L x y hy m hk (by omega), by simp [put13]; omega⟩
  | note => exact ⟨add69n L x y hy, by simp [put13]; omega⟩
  | msg m => exact ⟨add69q L x y hy m hk (by omega), by simp [put13]; omega⟩
  | sub => exact ⟨add69s L x y hy, by simp [put13]; omega⟩
  | more m => exact ⟨add69x L x y hy m hk (by omega), by simp [put13]; omega⟩
  | ack a => exact absurd hk id
  | want => exact absurd hk id
theorem KOK13_of (y : Sub) (h : SubOK y) : ∀ k ∈ kinds13 y, KOK13 k := by
  intro k hk
  rcases kinds13_of y k hk with rfl | rfl | rfl | ⟨m, hm, rfl⟩ | ⟨m, hm, rfl⟩ | ⟨m, hm, rfl⟩
  · trivial
  · trivial
  · trivial
  · exact h.msgs m hm
  · exact h.msgs m hm
  · exact h.msgs m hm
def dSubA (y : Sub) (a q : D) : D := .ag [.i .i64 y.id, .s y.name, .s y.topic, .s y.want, .i .i64 y.lease, .i .i64 y.most, .i .i64 y.floor, a, q, .s y.note]
def dOfA (y : Sub) (a g : D) : D := .ag [.i .i64 y.id, .s y.name, .s y.topic, .s y.want, .i .i64 y.lease, .i .i64 y.most, .i .i64 y.floor, a, dMsgs y.queue, .s y.note, g]
theorem dec44 (L : Laid W) (y : Sub) (hy : SubOK y) (hr : Rising ((kinds13 y).map (row13 y))) : Fc T W 44 [dRows ((kinds13 y).map (row13 y))] (.tu [dSub y, .i .i64 0]) := by
  have hkk := KOK13_of y hy
  obtain ⟨ks, hks⟩ : ∃ ks, ks = kinds13 y := ⟨_, rfl⟩
  obtain ⟨gs, hgs⟩ : ∃ gs, gs = gapL y.floor y.acks := ⟨_, rfl⟩
  have hl := kinds13_len y hy
  have hf := fold13 y hy
  have henc := enc51 L y hy
  have hgl := gapL_len y.floor y.acks
  have hsum := sum_gap y.acks y.floor hy.rise
  have han := hy.acks
  rw [← hgs] at hf hgl hsum
  rw [← hks] at hl hf hr henc hkk ⊢
  have hl2 : (ks.map (row13 y)).length ≤ 100000 := by simp; omega
  refine Fc_intro (thr := thr) hmix Tryz.func44 rfl (by kernel_rfl) (by simp [Tryz.ntmps44]) ?_
  refine CW_reg fun K_ hK => ?_
  simp [wk, vk, ek, ok, lk, er_oK, er_dRows, buildD, fillD, thr]
  refine hK _ ?_
  refine CW_reg fun K_ hK => ?_
  simp [wk, vk, ek, ok, lk, er_oK, er_dRows, buildD, fillD, thr]
  refine hK _ ?_
  refine CW_seq1 ?_
  refine CW_reg fun K_ hK => ?_
  simp [wk, vk, ek, ok, lk, er_oK, er_dRows, buildD, fillD, thr]
  refine hK _ ?_
  refine CW_for (fun j τ => ∃ (i : Nat) (x : Sub × List Nat), j = ks.length - i ∧ i ≤ ks.length ∧ x = (ks.take i).foldl (put13 y) (z0, []) ∧ x.1.queue.length + (ks.length - i) ≤ 1000 ∧ τ.fr 0 = dRows (ks.map (row13 y)) ∧ τ.fr 2 = .p 2 0 0 ∧ τ.bx 2 0 = some (dSub z0) ∧ τ.fr 4 = .p 4 1 0 ∧ τ.bx 4 1 = some (dOf x) ∧ τ.fr 5 = .i .i64 i) (ks.length) ?_ ?_
  · exact ⟨0, (z0, []), rfl, by omega, rfl, by simp [z0]; omega, by simp [upd], by simp [upd], by simp [upd2]; rfl, by simp [upd], by simp [upd2]; rfl, by simp [upd]⟩
  · rintro j ⟨fr, bx, tp, c⟩ ⟨i, x, rfl, hi, hx, hlq, f0, f2, b2, f4, b4, f5⟩ K0 hN0 hX0 hR0 hJ0
    simp only at f0 f2 b2 f4 b4 f5
    rw [dSub] at b2
    have b4b := b4
    rw [dOf] at b4
    refine CW_seq1 ?_
    refine CW_reg fun K_ hK => ?_
    simp [wk, vk, ek, ok, lk, er_oK, er_dRows, buildD, fillD, thr, f0, f2, b2, f4, b4, f5]
    refine hK _ ?_
    refine CW_cond rfl (fun hct12 => ?_) (fun hct12 => ?_)
    · have hil : i < ks.length := by simpa [wk, vk, ek, ok, f0, f5] using hct12
      have hst := step13 L y hy ks[i] x (ks.length - (i + 1)) (hkk _ (List.getElem_mem hil)) (by omega)
      refine CW_sk ?_
      refine CW_seq1 ?_
      refine CW_blk fun K1 hn1 hx1 hr1 hj1 => ?_
      refine CW_reg1 fun K_ hK => ?_
      simp [wk, vk, ek, ok, lk, er_oK, er_dRows, buildD, fillD, thr, f0, f2, b2, f4, b4, f5, hil, dOf, isAg_row]
      refine CallW_use (hst.1) ?_
      simp [wk, vk, ek, ok, lk, er_oK, er_dRows, buildD, fillD, thr, f0, f2, b2, f4, b4, f5, hil, dOf, isAg_row]
      refine hK _ ?_
      refine hn1 _ ?_
      refine CW_reg1 fun K_ hK => ?_
      simp [wk, vk, ek, ok, lk, er_oK, er_dRows, buildD, fillD, thr, f0, f2, b2, f4, b4, f5, hil]
      refine hK _ ?_
      refine hN0 (ks.length - (i + 1)) _ (by omega) ⟨i + 1, put13 y x ks[i], rfl, by omega, ?_, ?_, by simp [upd, f0], by simp [upd, f2], by simp [upd2, b2, dSub], by simp [upd, f4], by simp [upd2, dOf], ?_⟩
      · rw [fold_take _ _ _ _ hil, ← hx]
      · have := hst.2; simpa using (by omega)
      · simp [upd]; rw [w64 (by omega) (by omega)]
    · have hil : ¬ i < ks.length := by simpa [wk, vk, ek, ok, f0, f5] using hct12
      rw [List.take_of_length_le (by omega), hf] at hx
      subst hx
      simp only [noAck] at b4
      refine CW_ex ?_
      refine hX0 _ ?_
      refine CW_reg fun K_ hK => ?_
      simp [wk, vk, ek, ok, lk, er_oK, er_dRows, buildD, fillD, thr, f0, f2, b2, f4, b4]
      refine hK _ ?_
      refine CW_seq1 ?_
      refine CW_reg fun K_ hK => ?_
      simp [wk, vk, ek, ok, lk, er_oK, er_dRows, buildD, fillD, thr, f0, f2, b2, f4, b4]
      refine hK _ ?_
      refine CW_for (fun j τ => ∃ (i last g : Nat), j = y.acks.length - i ∧ i ≤ y.acks.length ∧ sumL last (gs.drop i) = y.acks.drop i ∧ τ.fr 6 = .i .i64 last ∧ τ.fr 0 = dRows (ks.map (row13 y)) ∧ τ.fr 2 = .p 2 0 0 ∧ τ.bx 2 0 = some (dSub z0) ∧ τ.fr 4 = .p 4 1 0 ∧ τ.bx 4 1 = some (dOfA y (oI g (y.acks.take i)) (dInts gs)) ∧ (y.acks.take i ≠ [] → τ.tp 41 = some (g, (y.acks.take i).length)) ∧ τ.fr 7 = .i .i64 i) (y.acks.length) ?_ ?_
      · exact ⟨0, y.floor, 0, rfl, by omega, hsum, by simp [upd, noAck], by simp [upd, f0], by simp [upd, f2], by simp [upd2, b2, dSub], by simp [upd, f4], by simp [upd2, b4]; rfl, by simp, by simp [upd]⟩
      · rintro j ⟨fr, bx, tp, c⟩ ⟨i, last, g, rfl, hi, hs, f6, f0, f2, b2, f4, b4, htp, f7⟩ K2 hN2 hX2 hR2 hJ2
        simp only at f6 f0 f2 b2 f4 b4 htp f7
        rw [dSub] at b2
        rw [dOfA] at b4
        refine CW_seq1 ?_
        refine CW_reg fun K_ hK => ?_
        simp [wk, vk, ek, ok, lk, er_oK, er_dRows, buildD, fillD, thr, f0, f2, b2, f4, b4, f6, f7, hgl]
        refine hK _ ?_
        refine CW_cond rfl (fun hct28 => ?_) (fun hct28 => ?_)
        · have hil : i < y.acks.length := by simpa [wk, vk, ek, ok, hgl, f7, b4, f4] using hct28
          have hig : i < gs.length := by omega
          have hs2 := hs
          rw [List.drop_eq_getElem_cons hig, List.drop_eq_getElem_cons hil, sumL] at hs2
          obtain ⟨hs3, hs4⟩ := List.cons.inj hs2
          have hle := hy.ackle _ (List.getElem_mem hil)
          have e1 : IntKind.i64.wrap ((last : Int) + (gs[i] : Int)) = (y.acks[i] : Int) := by rw [w64 (by omega) (by omega)]; omega
          have ht : y.acks.take (i + 1) = y.acks.take i ++ [y.acks[i]] := List.take_succ_eq_append_getElem hil
          obtain ⟨tk, htk⟩ : ∃ tk, tk = y.acks.take i := ⟨_, rfl⟩
          have htl : tk.length ≤ 1000 := by rw [htk]; simp; omega
          rw [← htk] at b4 htp ht
          refine CW_sk ?_
          refine CW_seq1 ?_
          refine CW_blk fun K3 hn3 hx3 hr3 hj3 => ?_
          refine CW_reg fun K_ hK => ?_
          simp [wk, vk, ek, ok, lk, er_oK, er_dRows, buildD, fillD, thr, f0, f2, b2, f4, b4, f6, f7, hgl, hil, hig, e1]
          refine hK _ ?_
          refine CW_reg1 fun K_ hK => ?_
          simp [wk, vk, ek, ok, lk, er_oK, er_dRows, buildD, fillD, thr, f0, f2, b2, f4, b4, f6, f7, hgl, hil, hig, e1]
          refine AppW_use (app_I tk y.acks[i] g htp (by omega)) ?_
          simp [wk, vk, ek, ok, lk, er_oK, er_dRows, buildD, fillD, thr, f0, f2, b2, f4, b4, f6, f7, hgl, hil, hig, e1]
          refine hK _ ?_
          refine hn3 _ ?_
          refine CW_reg1 fun K_ hK => ?_
          simp [wk, vk, ek, ok, lk, er_oK, er_dRows, buildD, fillD, thr, f0, f2, b2, f4, b4, f6, f7, hgl, hil, hig, e1]
          refine hK _ ?_
          refine hN2 (y.acks.length - (i + 1)) _ (by omega) ⟨i + 1, y.acks[i], _, rfl, by omega, ?_, by simp [upd], by simp [upd, f0], by simp [upd, f2], by simp [upd2, b2, dSub], by simp [upd, f4], by simp [upd2, dOfA, ht]; rfl, fun _ => by rw [ht]; simp [upd], ?_⟩
          · rw [← hs3]; exact hs4
          · simp [upd]; rw [w64 (by omega) (by omega)]
        · have hil : ¬ i < y.acks.length := by simpa [wk, vk, ek, ok, hgl, f7, b4, f4] using hct28
          rw [List.take_of_length_le (by omega)] at b4
          refine CW_ex ?_
          refine hX2 _ ?_
          refine CW_seq1 ?_
          refine CW_reg fun K_ hK => ?_
          simp [wk, vk, ek, ok, lk, er_oK, er_dRows, buildD, fillD, thr, f0, f2, b2, f4, b4]
          refine CallW_use (rising70 _ hl2 hr) ?_
          simp [wk, vk, ek, ok, lk, er_oK, er_dRows, buildD, fillD, thr, f0, f2, b2, f4, b4]
          refine CallW_use (henc) ?_
          simp [wk, vk, ek, ok, lk, er_oK, er_dRows, buildD, fillD, thr, f0, f2, b2, f4, b4]
          refine CallW_use (same32 _ hl2) ?_
          simp [wk, vk, ek, ok, lk, er_oK, er_dRows, buildD, fillD, thr, f0, f2, b2, f4, b4]
          refine hK _ ?_
          refine CW_no rfl ?_
          refine CW_sk ?_
          refine CW_reg fun K_ hK => ?_
          simp [wk, vk, ek, ok, lk, er_oK, er_dRows, buildD, fillD, thr, f0, f2, b2, f4, b4]
          refine hK _ ?_
          refine CW_rt ?_
          refine ends_ret ?_
          simp [Tryz.results44, resD, resL, resD1, vk, wk, ok, lk, er_oK, er_dRows, buildD, fillD, ek, dSub, f0, f2, b2, f4, b4]
theorem ord14 (y : Sub) : ordK (kinds14 y) := by
  unfold kinds14
  refine ordK_app _ _ ?_ ⟨fun _ h => by simp at h, trivial⟩
  intro k hk
  simp only [List.mem_append, List.mem_map, gz] at hk
  rcases hk with hk | ⟨a, _, rfl⟩
  · split at hk <;> simp at hk; simp [hk]
  · simp
theorem dec45 (L : Laid W) (y : Sub) (hy : SubOK y) (hr : Rising ((kinds14 y).map (row14 y))) : Fc T W 45 [dRows ((kinds14 y).map (row14 y))] (.tu [dSub y, .i .i64 0]) := by
  have hkk := kinds14_of y
  have ho := ord14 y
  obtain ⟨ks, hks⟩ : ∃ ks, ks = kinds14 y := ⟨_, rfl⟩
  obtain ⟨gs, hgs⟩ : ∃ gs, gs = gapL y.floor y.acks := ⟨_, rfl⟩
  have hl := kinds14_len y hy
  have hf := fold14 y hy
  have henc := enc52 L y hy
  have hgl := gapL_len y.floor y.acks
  have hsum := sum_gap y.acks y.floor hy.rise
  have han := hy.acks
  rw [← hgs] at hf hgl hsum
  rw [← hks] at hl hf hr henc hkk ho ⊢
  have hl2 : (ks.map (row14 y)).length ≤ 100000 := by simp; omega
  refine Fc_intro (thr := thr) hmix Tryz.func45 rfl (by kernel_rfl) (by simp [Tryz.ntmps45]) ?_
  refine CW_reg fun K_ hK => ?_
  simp [wk, vk, ek, ok, lk, er_oK, er_dRows, buildD, fillD, thr]
  refine hK _ ?_
  refine CW_reg fun K_ hK => ?_
  simp [wk, vk, ek, ok, lk, er_oK, er_dRows, buildD, fillD, thr]
  refine hK _ ?_
  refine CW_reg fun K_ hK => ?_
  simp [wk, vk, ek, ok, lk, er_oK, er_dRows, buildD, fillD, thr]
  refine hK _ ?_
  refine CW_seq1 ?_
  refine CW_reg fun K_ hK => ?_
  simp [wk, vk, ek, ok, lk, er_oK, er_dRows, buildD, fillD, thr]
  refine hK _ ?_
  refine CW_for (fun j τ => ∃ (i : Nat) (oq : Option Nat) (x : Sub × List Nat), j = ks.length - i ∧ i ≤ ks.length ∧ x = (ks.take i).foldl (put14 y) (z0, []) ∧ ordK (ks.drop i) ∧ LabQ (ks.drop i) oq τ.tp x.1.queue ∧ τ.fr 0 = dRows (ks.map (row14 y)) ∧ τ.fr 2 = .p 2 0 0 ∧ τ.bx 2 0 = some (dSub z0) ∧ τ.fr 4 = .p 4 1 0 ∧ τ.bx 4 1 = some (oSub none oq x.1) ∧ τ.fr 5 = dInts x.2 ∧ τ.fr 6 = .i .i64 i) (ks.length) ?_ ?_
  · exact ⟨0, some 0, (z0, []), rfl, by omega, rfl, ho, ⟨by simp [z0]; omega, .inl ⟨0, rfl, fun h => absurd rfl h⟩⟩, by simp [upd], by simp [upd], by simp [upd2]; rfl, by simp [upd], by simp [upd2]; rfl, by simp [upd]; rfl, by simp [upd]⟩
  · rintro j ⟨fr, bx, tp, c⟩ ⟨i, oq, x, rfl, hi, hx, hod, hlq, f0, f2, b2, f4, b4, f5, f6⟩ K0 hN0 hX0 hR0 hJ0
    simp only at f0 f2 b2 f4 b4 f5 f6
    rw [dSub] at b2
    have b4b := b4
    rw [oSub] at b4
    refine CW_seq1 ?_
    refine CW_reg fun K_ hK => ?_
    simp [wk, vk, ek, ok, lk, er_oK, er_dRows, buildD, fillD, thr, f0, f2, b2, f4, b4, f5, f6]
    refine hK _ ?_
    refine CW_cond rfl (fun hct18 => ?_) (fun hct18 => ?_)
    · have hil : i < ks.length := by simpa [wk, vk, ek, ok, f0, f6] using hct18
      rw [List.drop_eq_getElem_cons hil] at hod hlq
      refine CW_sk ?_
      refine CW_seq1 ?_
      refine CW_blk fun K1 hn1 hx1 hr1 hj1 => ?_
      rcases hkk _ (List.getElem_mem hil) with hkE | hkE | ⟨m, hm, hkE⟩
      · have hrow : row14 y ks[i] = rowK 3 y.id 97 0 (numB gs.length ++ numsB gs) := by rw [hkE, hgl, hgs]; rfl
        rw [hkE] at hod hlq
        refine CW_reg fun K_ hK => ?_
        simp [wk, vk, ek, ok, lk, er_oK, er_dRows, buildD, fillD, thr, f0, f2, b2, f4, b4, f5, f6, hil, hrow, rowK, dRow]
        refine CallW_use (parts_ok L 3 97 y.id 0 (by decide) (by decide) (by have := hy.id; omega) (by decide)) ?_
        simp [wk, vk, ek, ok, lk, er_oK, er_dRows, buildD, fillD, thr, f0, f2, b2, f4, b4, f5, f6, hil, hrow, rowK, dRow]
        refine hK _ ?_
        refine CW_reg fun K_ hK => ?_
        simp [wk, vk, ek, ok, lk, er_oK, er_dRows, buildD, fillD, thr, f0, f2, b2, f4, b4, f5, f6, hil, hrow, rowK, dRow]
        refine hK _ ?_
        refine CW_reg fun K_ hK => ?_
        simp [wk, vk, ek, ok, lk, er_oK, er_dRows, buildD, fillD, thr, f0, f2, b2, f4, b4, f5, f6, hil, hrow, rowK, dRow]
        refine hK _ ?_
        refine CW_blk fun K2 hn2 hx2 hr2 hj2 => ?_
        refine CW_reg fun K_ hK => ?_
        simp [wk, vk, ek, ok, lk, er_oK, er_dRows, buildD, fillD, thr, f0, f2, b2, f4, b4, f5, f6, hil, hrow, rowK, dRow]
        refine hK _ ?_
        refine CW_yes rfl ?_
        refine CW_reg1 fun K_ hK => ?_
        simp [wk, vk, ek, ok, lk, er_oK, er_dRows, buildD, fillD, thr, f0, f2, b2, f4, b4, f5, f6, hil, hrow, rowK, dRow]
        refine CallW_use (gaps71 gs (by rw [hgs]; exact gapL_le y.acks y.floor hy.ackle) (by omega)) ?_
        simp [wk, vk, ek, ok, lk, er_oK, er_dRows, buildD, fillD, thr, f0, f2, b2, f4, b4, f5, f6, hil, hrow, rowK, dRow]
        refine hK _ ?_
        refine hn2 _ ?_
        refine hn1 _ ?_
        refine CW_reg1 fun K_ hK => ?_
        simp [wk, vk, ek, ok, lk, er_oK, er_dRows, buildD, fillD, thr, f0, f2, b2, f4, b4, f5, f6, hil, hrow, rowK, dRow]
        refine hK _ ?_
        refine hN0 (ks.length - (i + 1)) _ (by omega) ⟨i + 1, oq, put14 y x ks[i], rfl, by omega, ?_, hod.2, ?_, by simp [upd, f0], by simp [upd, f2], by simp [upd2, b2, dSub], by simp [upd, f4], ?_, ?_, ?_⟩
        · rw [fold_take _ _ _ _ hil, ← hx]
        · rw [hkE]; exact hlq.tail rfl
        · rw [hkE]; simp [upd2, oSub, put14, lI_none, lM_none, lM_some]
        · rw [hkE]; simp [upd, put14, f5, hgs]
        · simp [upd]; rw [w64 (by omega) (by omega)]
      · have hrow : row14 y ks[i] = rowK 3 y.id 115 0 (textB y.name ++ (textB y.topic ++ (textB y.want ++ (numB y.lease ++ (numB y.most ++ (numB y.floor ++ textB y.note)))))) := by rw [hkE]; rfl
        rw [hkE] at hod hlq
        refine CW_reg fun K_ hK => ?_
        simp [wk, vk, ek, ok, lk, er_oK, er_dRows, buildD, fillD, thr, f0, f2, b2, f4, b4, f5, f6, hil, hrow, rowK, dRow]
        refine CallW_use (parts_ok L 3 115 y.id 0 (by decide) (by decide) (by have := hy.id; omega) (by decide)) ?_
        simp [wk, vk, ek, ok, lk, er_oK, er_dRows, buildD, fillD, thr, f0, f2, b2, f4, b4, f5, f6, hil, hrow, rowK, dRow]
        refine hK _ ?_
        refine CW_reg fun K_ hK => ?_
        simp [wk, vk, ek, ok, lk, er_oK, er_dRows, buildD, fillD, thr, f0, f2, b2, f4, b4, f5, f6, hil, hrow, rowK, dRow]
        refine hK _ ?_
        refine CW_reg fun K_ hK => ?_
        simp [wk, vk, ek, ok, lk, er_oK, er_dRows, buildD, fillD, thr, f0, f2, b2, f4, b4, f5, f6, hil, hrow, rowK, dRow]
        refine hK _ ?_
        refine CW_blk fun K2 hn2 hx2 hr2 hj2 => ?_
        refine CW_reg fun K_ hK => ?_
        simp [wk, vk, ek, ok, lk, er_oK, er_dRows, buildD, fillD, thr, f0, f2, b2, f4, b4, f5, f6, hil, hrow, rowK, dRow]
        refine hK _ ?_
        refine CW_no rfl ?_
        refine CW_reg fun K_ hK => ?_
        simp [wk, vk, ek, ok, lk, er_oK, er_dRows, buildD, fillD, thr, f0, f2, b2, f4, b4, f5, f6, hil, hrow, rowK, dRow]
        refine hK _ ?_
        refine CW_no rfl ?_
        refine CW_reg fun K_ hK => ?_
        simp [wk, vk, ek, ok, lk, er_oK, er_dRows, buildD, fillD, thr, f0, f2, b2, f4, b4, f5, f6, hil, hrow, rowK, dRow]
        refine hK _ ?_
        refine CW_yes rfl ?_
        refine CW_reg1 fun K_ hK => ?_
        simp [wk, vk, ek, ok, lk, er_oK, er_dRows, buildD, fillD, thr, f0, f2, b2, f4, b4, f5, f6, hil, hrow, rowK, dRow, dSub]
        refine CallW_use (sub73 { x.1 with id := y.id } y hy) ?_
        simp [wk, vk, ek, ok, lk, er_oK, er_dRows, buildD, fillD, thr, f0, f2, b2, f4, b4, f5, f6, hil, hrow, rowK, dRow, dSub]
        refine hK _ ?_
        refine hn2 _ ?_
        refine hn1 _ ?_
        refine CW_reg1 fun K_ hK => ?_
        simp [wk, vk, ek, ok, lk, er_oK, er_dRows, buildD, fillD, thr, f0, f2, b2, f4, b4, f5, f6, hil, hrow, rowK, dRow]
        refine hK _ ?_
        refine hN0 (ks.length - (i + 1)) _ (by omega) ⟨i + 1, none, put14 y x ks[i], rfl, by omega, ?_, hod.2, ?_, by simp [upd, f0], by simp [upd, f2], by simp [upd2, b2, dSub], by simp [upd, f4], ?_, ?_, ?_⟩
        · rw [fold_take _ _ _ _ hil, ← hx]
        · rw [hkE]; exact ⟨by have := hlq.1; simp only [List.length_cons, put14] at this ⊢; omega, .inr hod.1⟩
        · rw [hkE]; simp [upd2, oSub, put14, lI_none, lM_none, lM_some]
        · rw [hkE]; simp [upd, put14, f5, hgs]
        · simp [upd]; rw [w64 (by omega) (by omega)]
      · have hmo := hy.msgs m hm
        have hrow : row14 y ks[i] = rowK 3 y.id 113 m.seq (textB m.body ++ (textB m.attr ++ (numB m.tries ++ (numB m.til ++ (numB m.prio ++ numB (deathN m)))))) := by rw [hkE]; rfl
        rw [hkE] at hod hlq
        have hlq2 := hlq.1
        rcases hlq.2 with ⟨g, rfl, htp⟩ | hn
        case inr => exact (hn (K.msg m) List.mem_cons_self).elim
        rw [lM_some] at b4
        simp at hlq2
        refine CW_reg fun K_ hK => ?_
        simp [wk, vk, ek, ok, lk, er_oK, er_dRows, buildD, fillD, thr, f0, f2, b2, f4, b4, f5, f6, hil, hrow, rowK, dRow]
        refine CallW_use (parts_ok L 3 113 y.id m.seq (by decide) (by decide) (by have := hy.id; omega) (by have := hmo.seq; omega)) ?_
        simp [wk, vk, ek, ok, lk, er_oK, er_dRows, buildD, fillD, thr, f0, f2, b2, f4, b4, f5, f6, hil, hrow, rowK, dRow]
        refine hK _ ?_
        refine CW_reg fun K_ hK => ?_
        simp [wk, vk, ek, ok, lk, er_oK, er_dRows, buildD, fillD, thr, f0, f2, b2, f4, b4, f5, f6, hil, hrow, rowK, dRow]
        refine hK _ ?_
        refine CW_reg fun K_ hK => ?_
        simp [wk, vk, ek, ok, lk, er_oK, er_dRows, buildD, fillD, thr, f0, f2, b2, f4, b4, f5, f6, hil, hrow, rowK, dRow]
        refine hK _ ?_
        refine CW_blk fun K2 hn2 hx2 hr2 hj2 => ?_
        refine CW_reg fun K_ hK => ?_
        simp [wk, vk, ek, ok, lk, er_oK, er_dRows, buildD, fillD, thr, f0, f2, b2, f4, b4, f5, f6, hil, hrow, rowK, dRow]
        refine hK _ ?_
        refine CW_no rfl ?_
        refine CW_reg fun K_ hK => ?_
        simp [wk, vk, ek, ok, lk, er_oK, er_dRows, buildD, fillD, thr, f0, f2, b2, f4, b4, f5, f6, hil, hrow, rowK, dRow]
        refine hK _ ?_
        refine CW_yes rfl ?_
        refine CW_reg1 fun K_ hK => ?_
        simp [wk, vk, ek, ok, lk, er_oK, er_dRows, buildD, fillD, thr, f0, f2, b2, f4, b4, f5, f6, hil, hrow, rowK, dRow]
        refine CallW_use (msg72 m hmo) ?_
        simp [wk, vk, ek, ok, lk, er_oK, er_dRows, buildD, fillD, thr, f0, f2, b2, f4, b4, f5, f6, hil, hrow, rowK, dRow]
        refine AppW_use (app_M x.1.queue m g htp (by omega)) ?_
        simp [wk, vk, ek, ok, lk, er_oK, er_dRows, buildD, fillD, thr, f0, f2, b2, f4, b4, f5, f6, hil, hrow, rowK, dRow]
        refine hK _ ?_
        refine hn2 _ ?_
        refine hn1 _ ?_
        refine CW_reg1 fun K_ hK => ?_
        simp [wk, vk, ek, ok, lk, er_oK, er_dRows, buildD, fillD, thr, f0, f2, b2, f4, b4, f5, f6, hil, hrow, rowK, dRow]
        refine hK _ ?_
        refine hN0 (ks.length - (i + 1)) _ (by omega) ⟨i + 1, some c, put14 y x ks[i], rfl, by omega, ?_, hod.2, ?_, by simp [upd, f0], by simp [upd, f2], by simp [upd2, b2, dSub], by simp [upd, f4], ?_, ?_, ?_⟩
        · rw [fold_take _ _ _ _ hil, ← hx]
        · rw [hkE]; exact ⟨by have := hlq.1; simp [put14] at this ⊢; omega, .inl ⟨c, rfl, fun _ => by simp [put14, upd]⟩⟩
        · rw [hkE]; simp [upd2, oSub, put14, lI_none, lM_none, lM_some]
        · rw [hkE]; simp [upd, put14, f5, hgs]
        · simp [upd]; rw [w64 (by omega) (by omega)]
    · have hil : ¬ i < ks.length := by simpa [wk, vk, ek, ok, f0, f6] using hct18
      rw [List.take_of_length_le (by omega), hf] at hx
      subst hx
      simp only [noAck] at b4 f5
      refine CW_ex ?_
      refine hX0 _ ?_
      refine CW_reg fun K_ hK => ?_
      simp [wk, vk, ek, ok, lk, er_oK, er_dRows, buildD, fillD, thr, f0, f2, b2, f4, b4, f5]
      refine hK _ ?_
      refine CW_seq1 ?_
      refine CW_reg fun K_ hK => ?_
      simp [wk, vk, ek, ok, lk, er_oK, er_dRows, buildD, fillD, thr, f0, f2, b2, f4, b4, f5]
      refine hK _ ?_
      refine CW_for (fun j τ => ∃ (i last g : Nat), j = y.acks.length - i ∧ i ≤ y.acks.length ∧ sumL last (gs.drop i) = y.acks.drop i ∧ τ.fr 12 = .i .i64 last ∧ τ.fr 0 = dRows (ks.map (row14 y)) ∧ τ.fr 2 = .p 2 0 0 ∧ τ.bx 2 0 = some (dSub z0) ∧ τ.fr 4 = .p 4 1 0 ∧ τ.bx 4 1 = some (dSubA y (oI g (y.acks.take i)) (lM oq y.queue)) ∧ (y.acks.take i ≠ [] → τ.tp 41 = some (g, (y.acks.take i).length)) ∧ τ.fr 5 = dInts gs ∧ τ.fr 13 = .i .i64 i) (y.acks.length) ?_ ?_
      · exact ⟨0, y.floor, 0, rfl, by omega, hsum, by simp [upd, noAck], by simp [upd, f0], by simp [upd, f2], by simp [upd2, b2, dSub], by simp [upd, f4], by simp [upd2, b4]; rfl, by simp, by simp [upd, f5], by simp [upd]⟩
      · rintro j ⟨fr, bx, tp, c⟩ ⟨i, last, g, rfl, hi, hs, f12, f0, f2, b2, f4, b4, htp, f5, f13⟩ K3 hN3 hX3 hR3 hJ3
        simp only at f12 f0 f2 b2 f4 b4 htp f5 f13
        rw [dSub] at b2
        rw [dSubA] at b4
        refine CW_seq1 ?_
        refine CW_reg fun K_ hK => ?_
        simp [wk, vk, ek, ok, lk, er_oK, er_dRows, buildD, fillD, thr, f0, f2, b2, f4, b4, f5, f12, f13, hgl]
        refine hK _ ?_
        refine CW_cond rfl (fun hct72 => ?_) (fun hct72 => ?_)
        · have hil : i < y.acks.length := by simpa [wk, vk, ek, ok, hgl, f13, b4, f4, f5] using hct72
          have hig : i < gs.length := by omega
          have hs2 := hs
          rw [List.drop_eq_getElem_cons hig, List.drop_eq_getElem_cons hil, sumL] at hs2
          obtain ⟨hs3, hs4⟩ := List.cons.inj hs2
          have hle := hy.ackle _ (List.getElem_mem hil)
          have e1 : IntKind.i64.wrap ((last : Int) + (gs[i] : Int)) = (y.acks[i] : Int) := by rw [w64 (by omega) (by omega)]; omega
          have ht : y.acks.take (i + 1) = y.acks.take i ++ [y.acks[i]] := List.take_succ_eq_append_getElem hil
          obtain ⟨tk, htk⟩ : ∃ tk, tk = y.acks.take i := ⟨_, rfl⟩
          have htl : tk.length ≤ 1000 := by rw [htk]; simp; omega
          rw [← htk] at b4 htp ht
          refine CW_sk ?_
          refine CW_seq1 ?_
          refine CW_blk fun K4 hn4 hx4 hr4 hj4 => ?_
          refine CW_reg fun K_ hK => ?_
          simp [wk, vk, ek, ok, lk, er_oK, er_dRows, buildD, fillD, thr, f0, f2, b2, f4, b4, f5, f12, f13, hgl, hil, hig, e1]
          refine hK _ ?_
          refine CW_reg1 fun K_ hK => ?_
          simp [wk, vk, ek, ok, lk, er_oK, er_dRows, buildD, fillD, thr, f0, f2, b2, f4, b4, f5, f12, f13, hgl, hil, hig, e1]
          refine AppW_use (app_I tk y.acks[i] g htp (by omega)) ?_
          simp [wk, vk, ek, ok, lk, er_oK, er_dRows, buildD, fillD, thr, f0, f2, b2, f4, b4, f5, f12, f13, hgl, hil, hig, e1]
          refine hK _ ?_
          refine hn4 _ ?_
          refine CW_reg1 fun K_ hK => ?_
          simp [wk, vk, ek, ok, lk, er_oK, er_dRows, buildD, fillD, thr, f0, f2, b2, f4, b4, f5, f12, f13, hgl, hil, hig, e1]
          refine hK _ ?_
          refine hN3 (y.acks.length - (i + 1)) _ (by omega) ⟨i + 1, y.acks[i], _, rfl, by omega, ?_, by simp [upd], by simp [upd, f0], by simp [upd, f2], by simp [upd2, b2, dSub], by simp [upd, f4], by simp [upd2, dSubA, ht]; rfl, fun _ => by rw [ht]; simp [upd], by simp [upd, f5], ?_⟩
          · rw [← hs3]; exact hs4
          · simp [upd]; rw [w64 (by omega) (by omega)]
        · have hil : ¬ i < y.acks.length := by simpa [wk, vk, ek, ok, hgl, f13, b4, f4, f5] using hct72
          rw [List.take_of_length_le (by omega)] at b4
          refine CW_ex ?_
          refine hX3 _ ?_
          refine CW_seq1 ?_
          refine CW_reg fun K_ hK => ?_
          simp [wk, vk, ek, ok, lk, er_oK, er_dRows, buildD, fillD, thr, f0, f2, b2, f4, b4]
          refine CallW_use (rising74 _ hl2 hr) ?_
          simp [wk, vk, ek, ok, lk, er_oK, er_dRows, buildD, fillD, thr, f0, f2, b2, f4, b4]
          refine CallW_use (henc) ?_
          simp [wk, vk, ek, ok, lk, er_oK, er_dRows, buildD, fillD, thr, f0, f2, b2, f4, b4]
          refine CallW_use (same32 _ hl2) ?_
          simp [wk, vk, ek, ok, lk, er_oK, er_dRows, buildD, fillD, thr, f0, f2, b2, f4, b4]
          refine hK _ ?_
          refine CW_no rfl ?_
          refine CW_sk ?_
          refine CW_reg fun K_ hK => ?_
          simp [wk, vk, ek, ok, lk, er_oK, er_dRows, buildD, fillD, thr, f0, f2, b2, f4, b4]
          refine hK _ ?_
          refine CW_rt ?_
          refine ends_ret ?_
          simp [Tryz.results45, resD, resL, resD1, vk, wk, ok, lk, er_oK, er_dRows, buildD, fillD, ek, dSub, f0, f2, b2, f4, b4]
end Go.Proofs.YtobamidecbfgpaaGreatDoor
