/- A step, over the shadow. No condition. -/
import Derived.Test.YtobamidecbfgpaaGreatDoorSl
import Derived.Test.YtobamidecbfgpaaGreatDoorMv
import Derived.Test.YtobamidecbfgpaaGreatDoorShD
/- The ids that move: a closure over a mix, over the shadow. No condition. -/
namespace Go.Proofs.YtobamidecbfgpaaGreatDoor
open Go Go.Sh Go.RowKit
set_option linter.unusedVariables false
set_option linter.unusedSimpArgs false
set_option maxRecDepth 10000
variable {W : World}
section
variable {P : Program} {thr' : FuncId → Bool} {all : Array Oper} {dst : Option Tmp} {ty : TypeId} {pos : String} {aft : Array Edge} {os : List Oper} {σ : St} {Q : St → Prop}
theorem CallV_use {f : FuncId} {t : Tmp} {args : Array Operand} {tys : Array TypeId} {caps : Array Value} {d : D} (h : σ.fr t = .v (.func (.func f) #[] caps) ∧ callable P f = true ∧ ∀ (E0 : Env) (w0 : World) (M : Nat → Prop) (N : Nat) (E : Env) (a : Act) (w : World), Sim W E0 w0 M N σ E a w → Calls P f (args.map a.eval ++ caps) w fun e w' => ∃ v E', e = .returned v ∧ Rep E' w' v d ∧ Qs E w E' w')
    (hk : RW P W thr' all os (σ.put dst d) Q) : RW P W thr' all (⟨dst, .call { callee := .value (.tmp t), args := args, argTypes := tys }, ty, pos, aft, none⟩ :: os) σ Q := by
  rw [RW_body rfl]
  exact ⟨_, ⟨f, caps, d, h.1, h.2.1, h.2.2, rfl⟩, hk⟩
end
theorem erV (x : Value) : er (.v x) = .v x := by simp [er]
def pickB (m : Mix) (id : Nat) : Bool := decide (m.cursor < id) != m.back
def pickI (m : Mix) (l : List Nat) : List Nat := l.filter (pickB m)
theorem step16 (m : Mix) (id : Nat) : Fc T W 16 [.i .i64 id, .rp (dMix m)] (.b (pickB m id)) := by
  refine Fc_intro (thr := thr) hmix Tryz.func16 rfl (by kernel_rfl) (by simp [Tryz.ntmps16]) ?_
  refine CW_reg fun K_ hK => ?_
  simp [wk, vk, ek, ok, lk, er_dSubs2, buildD, fillD, thr, dMix]
  refine hK _ ?_
  refine CW_reg fun K_ hK => ?_
  simp [wk, vk, ek, ok, lk, er_dSubs2, buildD, fillD, thr, dMix]
  refine hK _ ?_
  refine CW_rt ?_
  refine ends_ret ?_
  simp [Tryz.results16, resD, resL, resD1, vk, wk, er, pickB]
  cases m.back <;> simp
/-- A block that holds a mix. -/
structure MixAt (W : World) (blk : Nat) (m : Mix) : Prop where
  lt : blk < W.heap.size
  at_ : ∃ f : Nat → Value, (∀ j, j < 4 → (f j).oneCell' = true) ∧ (∀ j, j < 4 → W.cell? ⟨blk, j, none⟩ = some (f j)) ∧ ∀ j, j < 4 → ∀ (E : Env) (w : World), Rep E w (f j) ((dMix m).cells.getD j .u)
theorem clo16 {m : Mix} {blk : Nat} (hm : MixAt W blk m) {id : Nat} {σ : St} {x : Operand} (hx : σ.ev x = .i .i64 (id : Int)) (E0 : Env) (w0 : World) (M : Nat → Prop) (N : Nat) (E : Env) (a : Act) (w : World) (hs : Sim W E0 w0 M N σ E a w) :
    Calls T 16 (#[x].map a.eval ++ #[.pointer (some ⟨blk, 0, none⟩)]) w fun e w' => ∃ v E', e = .returned v ∧ Rep E' w' v (.b (pickB m id)) ∧ Qs E w E' w' := by
  obtain ⟨f, h1, h2, h3⟩ := hm.at_
  have hg := hs.base.glob
  have hlt : blk < w.heap.size := Nat.lt_of_lt_of_le hm.lt hg.size
  have hv := hs.ev x
  rw [hx] at hv
  have hc := step16 (W := W) m id (upd E.pr blk (max 4 (E.pr blk))) w [a.eval x, .pointer (some ⟨blk, 0, none⟩)] hg (fun b hb => by
    rw [upd_other _ _ (by omega)]
    exact hs.base.fresh b hb) ⟨rfl, fun j hj => by
    match j, hj with
    | 0, _ => exact closed_i _ _ _ _ _ _ _ hv
    | 1, _ =>
      refine .rp blk 0 _ f (fun j hj => h1 j hj) (fun j hj => ?_) (fun j hj => h3 j hj _ _)
      rw [Nat.zero_add]
      refine ⟨(World.cell?_of_block (w := W) (a := ⟨blk, j, none⟩) (hg.block blk hm.lt)).trans (h2 j hj), ?_⟩
      show j < upd E.pr blk (max 4 (E.pr blk)) blk
      rw [upd_same]
      have : j < 4 := hj
      omega⟩
  rw [show (#[x].map a.eval ++ #[Value.pointer (some ⟨blk, 0, none⟩)]) = [a.eval x, .pointer (some ⟨blk, 0, none⟩)].toArray by simp]
  refine hc.mono ?_
  rintro e w' ⟨v, pr', rfl, hv', hb, hold, hnew⟩
  refine ⟨v, E, rfl, closed_b _ _ _ _ _ _ hv', below_ext hs.base.fresh hb rfl rfl rfl (fun _ _ => rfl), hb, rfl, rfl, rfl, fun _ _ => rfl, fun b hge => hs.base.fresh b (Nat.le_trans hb.size hge)⟩
theorem pickI_succ (m : Mix) (l : List Nat) (i v : Nat) (h : l[i]? = some v) : pickI m (l.take (i + 1)) = pickI m (l.take i) ++ (if pickB m v = true then [v] else []) := by
  rw [List.take_add_one, h, pickI, List.filter_append]
  simp only [Option.toList_some, List.filter_cons, List.filter_nil]
  rfl
theorem pickI_len (m : Mix) (l : List Nat) : (pickI m l).length ≤ l.length := List.length_filter_le _ _
theorem ids15 (s : Sta) (hs : s.subs.length ≤ 1000) (hr : (s.subs.map (·.id)).Pairwise (· < ·)) (m : Mix) (blk : Nat) (hm : MixAt W blk m) : Fc T W 15 [dSta s, .v (.func (.func 16) #[] #[.pointer (some ⟨blk, 0, none⟩)])] (dInts (pickI m (s.subs.map (·.id)))) := by
  obtain ⟨cl, hcl⟩ : ∃ cl : Value, cl = .func (.func 16) #[] #[.pointer (some ⟨blk, 0, none⟩)] := ⟨_, rfl⟩
  rw [← hcl]
  obtain ⟨L, hL⟩ : ∃ L, L = s.subs.map (·.id) := ⟨_, rfl⟩
  have hLl : L.length = s.subs.length := by rw [hL, List.length_map]
  rw [← hL] at hr ⊢
  refine Fc_intro (thr := thr) hmix Tryz.func15 rfl (by kernel_rfl) (by simp [Tryz.ntmps15]) ?_
  refine CW_reg fun K_ hK => ?_
  simp [wk, vk, ek, ok, lk, er_dSubs2, buildD, fillD, thr, dSta, erV]
  refine hK _ ?_
  refine CW_reg fun K_ hK => ?_
  simp [wk, vk, ek, ok, lk, er_dSubs2, buildD, fillD, thr, dSta, erV]
  refine hK _ ?_
  refine CW_seq1 ?_
  refine CW_reg fun K_ hK => ?_
  simp [wk, vk, ek, ok, lk, er_dSubs2, buildD, fillD, thr, dSta, erV]
  refine hK _ ?_
  refine CW_for (fun j τ => ∃ (i g : Nat), j = s.subs.length - i ∧ i ≤ s.subs.length ∧ τ.fr 1 = .v cl ∧ τ.fr 5 = oI g (pickI m (L.take i)) ∧ (pickI m (L.take i) ≠ [] → τ.tp 41 = some (g, (pickI m (L.take i)).length)) ∧ τ.fr 9 = dSubs s.subs ∧ τ.fr 10 = .i .i64 s.subs.length ∧ τ.fr 11 = .i .i64 i) (s.subs.length) ?_ ?_
  · exact ⟨0, 0, rfl, by omega, by simp [upd], by simp [upd]; rfl, fun h => absurd rfl h, by simp [upd], by simp [upd], by simp [upd]⟩
  · rintro j ⟨fr, bx, tp, c⟩ ⟨i, g, rfl, hi, f1, f5, htp, f9, f10, f11⟩ K0 hN0 hX0 hR0 hJ0
    simp only at f1 f5 htp f9 f10 f11
    have hpl := pickI_len m (L.take i)
    simp only [List.length_take] at hpl
    refine CW_reg fun K_ hK => ?_
    simp [wk, vk, ek, ok, lk, er_dSubs2, buildD, fillD, thr, f1, f5, f9, f10, f11]
    refine hK _ ?_
    refine CW_seq1 ?_
    refine CW_cond rfl (fun hct12 => ?_) (fun hct12 => ?_)
    · have hil : i < s.subs.length := by simpa [wk, vk, ek, ok, f10, f11] using hct12
      refine CW_sk ?_
      refine CW_seq1 ?_
      refine CW_blk fun K1 hn1 hx1 hr1 hj1 => ?_
      refine CW_reg fun K_ hK => ?_
      have hv : L[i]? = some s.subs[i].id := by rw [hL]; simp [hil]
      have hix := ix_dS s.subs .i64 i hil
      simp [wk, vk, ek, ok, lk, er_dSubs2, buildD, fillD, thr, f1, f5, f9, f10, f11, hil, hix, isAg_sub, solid_sub, clen_sub]
      refine hK _ ?_
      refine CW_reg fun K_ hK => ?_
      simp [wk, vk, ek, ok, lk, er_dSubs2, buildD, fillD, thr, f1, f5, f9, f10, f11, hil, dSub]
      refine CallV_use (⟨by simp [upd, hcl], by kernel_rfl, clo16 (id := s.subs[i].id) hm (by simp [upd, wk, vk])⟩) ?_
      simp [wk, vk, ek, ok, lk, er_dSubs2, buildD, fillD, thr, f1, f5, f9, f10, f11, hil, dSub]
      refine hK _ ?_
      refine CW_cond rfl (fun hct23 => ?_) (fun hct23 => ?_)
      · have hpk : pickB m s.subs[i].id = true := by simpa [wk, vk, ek] using hct23
        refine CW_reg1 fun K_ hK => ?_
        simp [wk, vk, ek, ok, lk, er_dSubs2, buildD, fillD, thr, f1, f5, f9, f10, f11, hil, dSub]
        refine AppW_use (app_I (pickI m (L.take i)) s.subs[i].id g htp (by omega)) ?_
        simp [wk, vk, ek, ok, lk, er_dSubs2, buildD, fillD, thr, f1, f5, f9, f10, f11, hil, dSub]
        refine hK _ ?_
        refine hn1 _ ?_
        refine CW_reg1 fun K_ hK => ?_
        simp [wk, vk, ek, ok, lk, er_dSubs2, buildD, fillD, thr, f1, f5, f9, f10, f11, hil]
        refine hK _ ?_
        refine hN0 (s.subs.length - (i + 1)) _ (by omega) ⟨i + 1, _, rfl, by omega, by simp [upd, f1], by rw [pickI_succ _ _ _ _ hv, if_pos hpk]; simp [upd]; rfl, fun _ => by rw [pickI_succ _ _ _ _ hv, if_pos hpk]; simp [upd], by simp [upd, f9], by simp [upd, f10], ?_⟩
        simp [upd, f11]; rw [w64 (by omega) (by omega)]
      · have hpk : ¬ pickB m s.subs[i].id = true := by simpa [wk, vk, ek] using hct23
        refine CW_sk ?_
        refine hn1 _ ?_
        refine CW_reg1 fun K_ hK => ?_
        simp [wk, vk, ek, ok, lk, er_dSubs2, buildD, fillD, thr, f1, f5, f9, f10, f11, hil]
        refine hK _ ?_
        refine hN0 (s.subs.length - (i + 1)) _ (by omega) ⟨i + 1, g, rfl, by omega, by simp [upd, f1], by rw [pickI_succ _ _ _ _ hv, if_neg hpk]; simp [upd, f5], by rw [pickI_succ _ _ _ _ hv, if_neg hpk]; simpa [upd] using htp, by simp [upd, f9], by simp [upd, f10], ?_⟩
        simp [upd, f11]; rw [w64 (by omega) (by omega)]
    · have hil : ¬ i < s.subs.length := by simpa [wk, vk, ek, ok, f10, f11] using hct12
      obtain rfl : i = s.subs.length := by omega
      rw [← hLl, List.take_length] at f5 htp
      refine CW_ex ?_
      refine hX0 _ ?_
      refine CW_reg fun K_ hK => ?_
      simp [wk, vk, ek, ok, lk, er_dSubs2, buildD, fillD, thr, f1, f5, f9, f10]
      refine CallT_use (sort24 (pickI m L) (hr.sublist (List.filter_sublist)) (by have := pickI_len m L; omega) g _ _ htp) ?_
      simp [wk, vk, ek, ok, lk, er_dSubs2, buildD, fillD, thr, f1, f5, f9, f10]
      refine hK _ ?_
      refine CW_reg fun K_ hK => ?_
      simp [wk, vk, ek, ok, lk, er_dSubs2, buildD, fillD, thr, f1, f5, f9, f10]
      refine hK _ ?_
      refine CW_rt ?_
      refine ends_ret ?_
      simp [Tryz.results15, resD, resL, resD1, vk, wk, ok, lk, er_dSubs2, buildD, fillD, ek, f1, f5, f9, f10]
end Go.Proofs.YtobamidecbfgpaaGreatDoor
namespace Go.Proofs.YtobamidecbfgpaaGreatDoor
open Go Go.Sh Go.RowKit
set_option linter.unusedVariables false
set_option linter.unusedSimpArgs false
set_option maxRecDepth 10000
variable {W : World}
theorem Fc_introS {P : Program} {thr' : FuncId → Bool} {f : FuncId} {fn : Func} {c : Code} {args : List D} {d : D} (hm : P.follows .mixedOrders = true) (hf : P.funcs[f]? = some fn) (hb : fn.body = some c) (hok : codeOk P thr' fn.ntmps c = true) (hn : args.length ≤ fn.ntmps)
    (h : ∀ (E0 : Env) (w0 : World), SW P W thr' E0 w0 (fun _ => False) fn.ntmps c (St.init args (fun _ => none) 0) (Go.Sh.Ends P fn fun r _ => er r = d)) : Fc P W f args d := by
  intro pr w vs hg hfresh hvs
  refine calls_of_wp hf hb ?_
  have hsim : Sim W (isoE pr) w (fun _ => False) fn.ntmps (St.init args (fun _ => none) 0) (isoE pr) { tmps := vs.toArray ++ Array.replicate (fn.ntmps - vs.toArray.size) undef, defers := [] } w := by
    refine ⟨⟨⟨fun k g b hb => (by cases hb), fun k g k' g' b hb => (by cases hb), fun k g b k' T hb => (by cases hb)⟩, ⟨fun k g n ht => (by cases ht), fun k T hT => (by cases hT), fun k k' T T' hT => (by cases hT)⟩, hfresh, Kp.refl _ w, Ext.refl _ _, rfl, fun _ _ _ => rfl, hg, hg.size, fun b hb => hb.elim⟩, ?_, rfl, fun t => init_fr hvs _ t⟩
    have := hvs.1
    simp
    omega
  refine wp_mono (h (isoE pr) w hm hok _ _ _ (fun k g hne => absurd rfl hne) hsim) (ends_body (fun τ E a w' r v hs hv hr => ?_))
  have hbel : Below w.heap.size w w' := ⟨hs.base.kp.os, hs.base.kp.tape, hs.base.kp.output, hs.base.kp.size, fun b hlt => hs.base.kp.block b hlt (fun h => h)⟩
  exact ⟨v, E.pr, rfl, hr ▸ hv.iso, hbel, fun b hlt => hs.base.old b hlt (fun h => h), hs.base.fresh⟩
def mkD (σ : St) (s : Sta) (l : List Nat) : St := (((σ.put (some 11) (dSta s)).put (some 12) .u).put (some 13) (dInts l)).put (some 6) (dInts l)
/-- A closure over a mix made and called. -/
theorem mkR3 {E0 : Env} {w0 : World} {M : Nat → Prop} {N : Nat} {σ : St} {id : Nat} {ops : Array Oper} {ty1 ty2 ty3 ty4 : TypeId} {tys : Array TypeId} {p1 p2 p3 p4 : String} {a1 a2 a3 a4 : Array Edge} {Q : Exit → St → Prop}
    (hops : ops = #[⟨some 11, .load 25 (.tmp 3), ty1, p1, a1, none⟩, ⟨some 12, .makeFunc (.func 16) #[] #[.tmp 2], ty2, p2, a2, none⟩, ⟨some 13, .call { callee := .value (.func 15), args := #[.tmp 11, .tmp 12], argTypes := tys }, ty3, p3, a3, none⟩, ⟨some 6, .assign (.tmp 13), ty4, p4, a4, none⟩])
    (m : Mix) (s : Sta) (hsl : s.subs.length ≤ 1000) (hr : (s.subs.map (·.id)).Pairwise (· < ·)) (h2 : σ.fr 2 = .p 2 0 0) (hb2 : σ.bx 2 0 = some (dMix m)) (h3 : σ.fr 3 = .p 3 1 0) (hb3 : σ.bx 3 1 = some (dSta s)) (hQ : Q .normal (mkD σ s (pickI m (s.subs.map (·.id))))) : SW T W thr E0 w0 M N (.region id ops false) σ Q := by
  intro hm hok E a w hwf hs
  simp only [codeOk, Bool.and_eq_true, Array.all_eq_true_iff_forall_mem, Bool.or_eq_true, Bool.not_eq_true'] at hok
  have hk := hok.1
  have o0 : ops[0]? = some ⟨some 11, .load 25 (.tmp 3), ty1, p1, a1, none⟩ := by rw [hops]; rfl
  have o1 : ops[1]? = some ⟨some 12, .makeFunc (.func 16) #[] #[.tmp 2], ty2, p2, a2, none⟩ := by rw [hops]; rfl
  have o2 : ops[2]? = some ⟨some 13, .call { callee := .value (.func 15), args := #[.tmp 11, .tmp 12], argTypes := tys }, ty3, p3, a3, none⟩ := by rw [hops]; rfl
  have o3 : ops[3]? = some ⟨some 6, .assign (.tmp 13), ty4, p4, a4, none⟩ := by rw [hops]; rfl
  have hN : ∀ (i : Nat) (o : Oper) (t : Nat), ops[i]? = some o → o.dst = some t → t < N := by
    intro i o t ho ht
    have := hk _ (Array.mem_of_getElem? ho)
    unfold opOk at this
    rw [ht] at this
    simp at this
    exact this.1
  refine wp_region ?_
  rw [show List.range ops.size = [0, 1, 2, 3] by rw [hops]; rfl]
  rw [wpOps_cons]
  refine stepR_sound (thr := thr) (W := W) (E0 := E0) (w0 := w0) (M := M) (σ' := σ.put (some 11) (dSta s)) o0 (hk _ (Array.mem_of_getElem? o0)) hs ?_ fun E1 b1 w1 s1 => ?_
  · refine (bodyR_plain (P := T) (W := W) (thr := thr) (o := ⟨some 11, .load 25 (.tmp 3), ty1, p1, a1, none⟩) rfl).2 ⟨dSta s, ?_, rfl⟩
    show loadD T σ.bx 25 (σ.fr 3) = _
    rw [h3]
    simp [vk, hb3, dSta]
  rw [wpOps_cons]
  unfold wpOp
  simp only [o1]
  rw [if_pos (by rfl)]
  refine .inl ?_
  unfold Oper.wp
  have hp := s1.fr 2
  rw [show (σ.put (some 11) (dSta s)).fr 2 = .p 2 0 0 by simp [St.put, updo, upd, h2]] at hp
  obtain ⟨blk, hbx, hpv⟩ : ∃ blk, E1.box 2 0 = some blk ∧ b1.tmps.getD 2 undef = .pointer (some ⟨blk, 0, none⟩) := by
    generalize b1.tmps.getD 2 undef = v at hp
    cases hp with
    | p _ _ _ blk h => exact ⟨blk, h, rfl⟩
  obtain ⟨clo, hclo⟩ : ∃ clo : Value, clo = .func (.func 16) #[] #[.pointer (some ⟨blk, 0, none⟩)] := ⟨_, rfl⟩
  have hrun : (execOp b1.eval ⟨some 12, .makeFunc (.func 16) #[] #[.tmp 2], ty2, p2, a2, none⟩).run T w1 = .ok (.value clo) w1 := by
    have e2 : b1.eval (.tmp 2) = .pointer (some ⟨blk, 0, none⟩) := hpv
    simp [execOp, Instr.makeFunc, e2, hclo]
  rw [hrun, Oper.upon_value]
  have s2 := s1.q (Qs.refl s1.base.fresh) (dst := some 12) (fun t ht => hN 1 _ t o1 ht) (.u clo)
  have hc12 : (b1.put (some 12) clo).tmps.getD 12 undef = clo := by
    have : 12 < b1.tmps.size := by rw [s1.size]; exact hN 1 _ 12 o1 rfl
    simp [Act.put, this]
  obtain ⟨b2, hb2'⟩ : ∃ b2, b2 = b1.put (some 12) clo := ⟨_, rfl⟩
  rw [← hb2'] at s2 hc12 ⊢
  rw [wpOps_cons]
  unfold wpOp
  simp only [o2]
  rw [if_pos (by rfl)]
  refine .inl ?_
  unfold Oper.wp
  rw [run_call b2.eval rfl rfl (by kernel_rfl) w1, Oper.upon_enter]
  obtain ⟨g1, g2, g3, d, cur, e, g4, g5, g6, g7⟩ := s1.base.box.at_ 2 0 blk hbx
  rw [show (σ.put (some 11) (dSta s)).bx 2 0 = some (dMix m) from hb2] at g4
  injection g4 with g4
  subst g4
  have hat : MixAt w1 blk m := by
    refine ⟨(Array.getElem?_eq_some_iff.1 g5).1, fun j => cur.toList.getD j undef, fun j hj => (g7 j hj).1, fun j hj => ?_, fun j hj E' w' => ?_⟩
    · rw [cell_of_row w1 blk j cur e (0, 0) g5]
      have : j < cur.size := by rw [g6]; exact hj
      simp [List.getD, this]
    · have h := (g7 j hj).2
      revert h
      match j, hj with
      | 0, _ => exact fun h => closed_i _ _ _ _ _ _ _ h
      | 1, _ => exact fun h => closed_i _ _ _ _ _ _ _ h
      | 2, _ => exact fun h => closed_i _ _ _ _ _ _ _ h
      | 3, _ => exact fun h => closed_b _ _ _ _ _ _ h
  have hids := ids15 (W := w1) s hsl hr m blk hat
  rw [← hclo] at hids
  have hc := hids E1.pr w1 [b2.eval (.tmp 11), b2.eval (.tmp 12)] (Below.refl _ _) s2.base.fresh ⟨rfl, fun j hj => by
    match j, hj with
    | 0, _ =>
      have h := (s2.fr 11).iso
      rw [show ((σ.put (some 11) (dSta s)).put (some 12) .u).fr 11 = dSta s by simp [St.put, updo, upd]] at h
      rw [er_dSta] at h
      exact h
    | 1, _ =>
      show Rep _ _ (b2.tmps.getD 12 undef) (.v clo)
      rw [hc12]
      exact .v _⟩
  have hargs : Array.map b2.eval #[Operand.tmp 11, Operand.tmp 12] = [b2.eval (.tmp 11), b2.eval (.tmp 12)].toArray := by simp
  rw [hargs]
  refine hc.mono ?_
  rintro e w' ⟨v, pr', rfl, hv, hbel, hold, hnew⟩
  have hq : Qs E1 w1 { E1 with pr := pr' } w' := ⟨below_ext s2.base.fresh hbel rfl rfl rfl hold, hbel, rfl, rfl, rfl, hold, hnew⟩
  have s3 := s2.q hq (dst := some 13) (fun t ht => hN 2 _ t o2 ht) (hv.deiso { E1 with pr := pr' } rfl)
  show wpOps T ops (Post W E0 w0 M N Q) [3] (b2.put (some 13) v) w'
  rw [wpOps_cons]
  refine stepR_sound (thr := thr) (W := W) (E0 := E0) (w0 := w0) (M := M) (σ' := mkD σ s (pickI m (s.subs.map (·.id)))) o3 (hk _ (Array.mem_of_getElem? o3)) s3 ?_ fun E4 b4 w4 s4 => ?_
  · refine (bodyR_plain (P := T) (W := W) (thr := thr) (o := ⟨some 6, .assign (.tmp 13), ty4, p4, a4, none⟩) rfl).2 ⟨dInts (pickI m (s.subs.map (·.id))), ?_, rfl⟩
    show some (St.fr _ 13) = _
    simp [St.put, updo, upd]
  exact ⟨mkD σ s (pickI m (s.subs.map (·.id))), E4, fun k g h => hwf k g h, s4, hQ⟩
def stepL (m : Mix) (l : List Nat) : Mix :=
  if l.length = 0 then (if m.back then ⟨m.src, m.src, 0, false⟩ else ⟨m.to, m.to, 0, false⟩)
  else if m.back then { m with cursor := l.getD (l.length - 1) 0 - 1 } else { m with cursor := l.getD 0 0 }
theorem step6 (m : Mix) (hne : m.src ≠ m.to) (s : Sta) (hs : s.subs.length ≤ 1000) (hr : Rise 0 (s.subs.map (·.id))) (hb : ∀ x ∈ s.subs, x.id ≤ 1000000) : Fc T W 6 [dMix m, dSta s] (.tu [dMix (stepL m (pickI m (s.subs.map (·.id)))), .b true]) := by
  have q1 : ((m.src : Int) != (m.to : Int)) = true := by simp; omega
  have q2 : ((m.src : Int) == (m.to : Int)) = false := by simp; omega
  have q3 : ¬ (m.src : Int) = (m.to : Int) := by omega
  obtain ⟨L, hL⟩ : ∃ L, L = pickI m (s.subs.map (·.id)) := ⟨_, rfl⟩
  have hpw := rise_pw hr
  have hLl : L.length ≤ 1000 := by have := pickI_len m (s.subs.map (·.id)); rw [← hL, List.length_map] at this; omega
  have hLb : ∀ a ∈ L, a ≤ 1000000 := by
      intro a ha
      rw [hL] at ha
      obtain ⟨x, hx, rfl⟩ := List.mem_map.1 (List.mem_filter.1 ha).1
      exact hb x hx
  have hLp : ∀ a ∈ L, 0 < a := fun a ha => rise_lt hr a (by rw [hL] at ha; exact (List.mem_filter.1 ha).1)
  refine Fc_introS (thr' := thr) hmix Tryz.func6 rfl (by kernel_rfl) (by simp [Tryz.ntmps6]) fun E0 w0 => ?_
  refine SW_reg fun K_ hK => ?_
  simp [wk, vk, ek, ok, lk, er_dSubs2, buildD, fillD, thr, dMix, dSta, q1, q2, q3, hne, mkD, St.put, updo]
  refine hK _ ?_
  refine SW_seq1 ?_
  refine SW_reg fun K_ hK => ?_
  simp [wk, vk, ek, ok, lk, er_dSubs2, buildD, fillD, thr, dMix, dSta, q1, q2, q3, hne, mkD, St.put, updo]
  refine CallW_use (moves13 m) ?_
  simp [wk, vk, ek, ok, lk, er_dSubs2, buildD, fillD, thr, dMix, dSta, q1, q2, q3, hne, mkD, St.put, updo]
  refine hK _ ?_
  refine SW_no rfl ?_
  refine SW_sk ?_
  refine SW_seq1 ?_
  refine mkR3 rfl m s hs hpw (by simp [upd]) (by simp [upd2, dMix]) (by simp [upd]) (by simp [upd2, dSta]) ?_
  rw [← hL]
  refine SW_seq1 ?_
  refine SW_blk fun K0 hn0 hx0 hr0 hj0 => ?_
  rcases Nat.eq_zero_or_pos L.length with h0 | h0 <;> rcases Bool.eq_false_or_eq_true m.back with hb | hb
  · have hi0 : ((L.length : Int) == 0) = true := by simp; exact List.eq_nil_of_length_eq_zero h0
    refine SW_reg fun K_ hK => ?_
    simp [wk, vk, ek, ok, lk, er_dSubs2, buildD, fillD, thr, dMix, dSta, q1, q2, q3, hne, mkD, St.put, updo, hi0, hb, h0]
    refine hK _ ?_
    refine SW_yes rfl ?_
    refine SW_reg fun K_ hK => ?_
    simp [wk, vk, ek, ok, lk, er_dSubs2, buildD, fillD, thr, dMix, dSta, q1, q2, q3, hne, mkD, St.put, updo, hi0, hb, h0]
    refine CallW_use (all17 m.src) ?_
    simp [wk, vk, ek, ok, lk, er_dSubs2, buildD, fillD, thr, dMix, dSta, q1, q2, q3, hne, mkD, St.put, updo, hi0, hb, h0]
    refine hK _ ?_
    refine SW_rt ?_
    refine hr0 _ ?_
    refine ends_ret ?_
    simp [Tryz.results6, resD, resL, resD1, vk, wk, ok, lk, er_dSubs2, buildD, fillD, ek, stepL, mkD, dMix, dSta, q1, q2, q3, hne, mkD, St.put, updo, hi0, hb, h0]
  · have hi0 : ((L.length : Int) == 0) = true := by simp; exact List.eq_nil_of_length_eq_zero h0
    refine SW_reg fun K_ hK => ?_
    simp [wk, vk, ek, ok, lk, er_dSubs2, buildD, fillD, thr, dMix, dSta, q1, q2, q3, hne, mkD, St.put, updo, hi0, hb, h0]
    refine hK _ ?_
    refine SW_no rfl ?_
    refine SW_reg fun K_ hK => ?_
    simp [wk, vk, ek, ok, lk, er_dSubs2, buildD, fillD, thr, dMix, dSta, q1, q2, q3, hne, mkD, St.put, updo, hi0, hb, h0]
    refine hK _ ?_
    refine SW_yes rfl ?_
    refine SW_reg fun K_ hK => ?_
    simp [wk, vk, ek, ok, lk, er_dSubs2, buildD, fillD, thr, dMix, dSta, q1, q2, q3, hne, mkD, St.put, updo, hi0, hb, h0]
    refine CallW_use (all17 m.to) ?_
    simp [wk, vk, ek, ok, lk, er_dSubs2, buildD, fillD, thr, dMix, dSta, q1, q2, q3, hne, mkD, St.put, updo, hi0, hb, h0]
    refine hK _ ?_
    refine SW_rt ?_
    refine hr0 _ ?_
    refine ends_ret ?_
    simp [Tryz.results6, resD, resL, resD1, vk, wk, ok, lk, er_dSubs2, buildD, fillD, ek, stepL, mkD, dMix, dSta, q1, q2, q3, hne, mkD, St.put, updo, hi0, hb, h0]
  · have hi0 : ((L.length : Int) == 0) = false := by rw [beq_eq_false_iff_ne]; omega
    have hnl : ¬ L.length = 0 := by omega
    have hnn : ¬ L = [] := by intro h; rw [h] at h0; exact absurd h0 (by decide)
    obtain ⟨k, hk⟩ : ∃ k, L.length = k + 1 := ⟨L.length - 1, by omega⟩
    have hx := ix_dI L .i64 k (by omega)
    have e1 : IntKind.i64.wrap ((L.length : Int) - 1) = (k : Int) := by rw [w64 (by omega) (by omega)]; omega
    have hv0 : 0 < L[k] := hLp _ (List.getElem_mem _)
    obtain ⟨v, hv⟩ : ∃ v, L[k] = v := ⟨_, rfl⟩
    have hvl : v ≤ 1000000 := hv ▸ hLb _ (List.getElem_mem _)
    rw [hv] at hx hv0
    have e2 : IntKind.i64.wrap ((v : Int) - 1) = ((v - 1 : Nat) : Int) := by rw [w64 (by omega) (by omega)]; omega
    have hgd : L[L.length - 1]?.getD 0 = v := by rw [← hv, show L.length - 1 = k by omega]; simp [hk]
    refine SW_reg fun K_ hK => ?_
    simp [wk, vk, ek, ok, lk, er_dSubs2, buildD, fillD, thr, dMix, dSta, q1, q2, q3, hne, mkD, St.put, updo, hi0, hb, hnl, hnn, hx, e1, e2, hgd]
    refine hK _ ?_
    refine SW_no rfl ?_
    refine SW_reg fun K_ hK => ?_
    simp [wk, vk, ek, ok, lk, er_dSubs2, buildD, fillD, thr, dMix, dSta, q1, q2, q3, hne, mkD, St.put, updo, hi0, hb, hnl, hnn, hx, e1, e2, hgd]
    refine hK _ ?_
    refine SW_no rfl ?_
    refine SW_reg fun K_ hK => ?_
    simp [wk, vk, ek, ok, lk, er_dSubs2, buildD, fillD, thr, dMix, dSta, q1, q2, q3, hne, mkD, St.put, updo, hi0, hb, hnl, hnn, hx, e1, e2, hgd]
    refine hK _ ?_
    refine SW_yes rfl ?_
    refine SW_reg1 fun K_ hK => ?_
    simp [wk, vk, ek, ok, lk, er_dSubs2, buildD, fillD, thr, dMix, dSta, q1, q2, q3, hne, mkD, St.put, updo, hi0, hb, hnl, hnn, hx, e1, e2, hgd]
    refine hK _ ?_
    refine hn0 _ ?_
    refine SW_reg fun K_ hK => ?_
    simp [wk, vk, ek, ok, lk, er_dSubs2, buildD, fillD, thr, dMix, dSta, q1, q2, q3, hne, mkD, St.put, updo, hi0, hb, hnl, hnn, hx, e1, e2, hgd]
    refine hK _ ?_
    refine SW_rt ?_
    refine ends_ret ?_
    simp [Tryz.results6, resD, resL, resD1, vk, wk, ok, lk, er_dSubs2, buildD, fillD, ek, stepL, mkD, dMix, dSta, q1, q2, q3, hne, mkD, St.put, updo, hi0, hb, hnl, hnn, hx, e1, e2, hgd]
  · have hi0 : ((L.length : Int) == 0) = false := by rw [beq_eq_false_iff_ne]; omega
    have hnl : ¬ L.length = 0 := by omega
    have hnn : ¬ L = [] := by intro h; rw [h] at h0; exact absurd h0 (by decide)
    have hx : indexD T 41 (dInts L) (.i .i64 0) = some (.rp (iN L[0])) := ix_dI L .i64 0 h0
    have hgd0 : L[0]?.getD 0 = L[0] := by rw [List.getElem?_eq_getElem h0]; rfl
    refine SW_reg fun K_ hK => ?_
    simp [wk, vk, ek, ok, lk, er_dSubs2, buildD, fillD, thr, dMix, dSta, q1, q2, q3, hne, mkD, St.put, updo, hi0, hb, hnl, hnn, hx, hgd0]
    refine hK _ ?_
    refine SW_no rfl ?_
    refine SW_reg fun K_ hK => ?_
    simp [wk, vk, ek, ok, lk, er_dSubs2, buildD, fillD, thr, dMix, dSta, q1, q2, q3, hne, mkD, St.put, updo, hi0, hb, hnl, hnn, hx, hgd0]
    refine hK _ ?_
    refine SW_no rfl ?_
    refine SW_reg fun K_ hK => ?_
    simp [wk, vk, ek, ok, lk, er_dSubs2, buildD, fillD, thr, dMix, dSta, q1, q2, q3, hne, mkD, St.put, updo, hi0, hb, hnl, hnn, hx, hgd0]
    refine hK _ ?_
    refine SW_no rfl ?_
    refine SW_reg1 fun K_ hK => ?_
    simp [wk, vk, ek, ok, lk, er_dSubs2, buildD, fillD, thr, dMix, dSta, q1, q2, q3, hne, mkD, St.put, updo, hi0, hb, hnl, hnn, hx, hgd0]
    refine hK _ ?_
    refine hn0 _ ?_
    refine SW_reg fun K_ hK => ?_
    simp [wk, vk, ek, ok, lk, er_dSubs2, buildD, fillD, thr, dMix, dSta, q1, q2, q3, hne, mkD, St.put, updo, hi0, hb, hnl, hnn, hx, hgd0]
    refine hK _ ?_
    refine SW_rt ?_
    refine ends_ret ?_
    simp [Tryz.results6, resD, resL, resD1, vk, wk, ok, lk, er_dSubs2, buildD, fillD, ek, stepL, mkD, dMix, dSta, q1, q2, q3, hne, mkD, St.put, updo, hi0, hb, hnl, hnn, hx, hgd0]
end Go.Proofs.YtobamidecbfgpaaGreatDoor
