/- Stores into a slice that the function made itself, over the shadow; and rules for code that is known by its runs (SW). No condition. -/
import Derived.Test.YtobamidecbfgpaaGreatDoorShC
import Derived.Test.YtobamidecbfgpaaGreatDoorShW
namespace Go.Sh
open Go.RowKit
set_option linter.unusedVariables false
/-- Data that stands for the same whatever the world. -/
def Closed (d : D) : Prop := ∀ (E : Env) (w : World) (E' : Env) (w' : World) (v : Value), Rep E w v d → Rep E' w' v d
def ClosedC (e : D) : Prop := ∀ c ∈ e.cells, Closed c
theorem closed_u : Closed .u := fun _ _ _ _ v h => .u v
theorem closed_i (k : IntKind) (n : Int) : Closed (.i k n) := fun _ _ _ _ v h => by cases h; exact .i k n
theorem closed_b (x : Bool) : Closed (.b x) := fun _ _ _ _ v h => by cases h; exact .b x
theorem closed_s (l : List UInt8) : Closed (.s l) := fun _ _ _ _ v h => by cases h; exact .s l
theorem closed_nil : Closed .nil := fun _ _ _ _ v h => by cases h; exact .nil
theorem closed_v (x : Value) : Closed (.v x) := fun _ _ _ _ v h => by cases h; exact .v x
theorem ClosedC.at_ {e : D} (h : ClosedC e) {j : Nat} (hj : j < e.cells.length) : Closed (e.cells.getD j .u) := by
  refine h _ ?_
  simp only [List.getD]
  rw [List.getElem?_eq_getElem hj]
  exact List.getElem_mem hj
section
variable {P : Program} {W : World} {thr : FuncId → Bool} {E0 : Env} {w0 : World} {M : Nat → Prop} {N : Nat} {σ σ' : St} {E : Env} {a : Act} {w : World} {ops : Array Oper}
theorem own_at (h : Sim W E0 w0 M N σ E a w) {v : Value} {k g sz : Nat} {es : List D} (hv : Rep E w v (.sl sz es (.op k g))) (ht : σ.tp k = some (g, es.length)) :
    ∃ T, E.top k = some T ∧ T.g = g ∧ T.n = es.length ∧ T.sz = sz ∧ es.length ≤ T.cap ∧ T.cap ≤ maxLen ∧ v = .slice (some ⟨T.blk, 0, none⟩) es.length T.cap ∧ ∃ f : Nat → Nat → Value, (∀ d ∈ es, d.cells.length = sz) ∧ (∀ i j, i < es.length → j < sz → (f i j).oneCell' = true) ∧
      (∀ i j, i < es.length → j < sz → w.cell? ⟨T.blk, i * sz + j, none⟩ = some (f i j) ∧ i * sz + j < E.pr T.blk) ∧ (∀ i j, i < es.length → j < sz → Rep E w (f i j) ((es.getD i .u).cells.getD j .u)) := by
  obtain ⟨T, hT, hTg, hTn⟩ := h.base.top.to k g _ ht
  cases hv with
  | sl blk off n cap _ _ _ f hn hcap hmax ho hg h1 hc hr =>
    obtain ⟨e1, e2, e3, e4⟩ := ho.2 T hT hTg (by rw [hTn, hn])
    subst hn e2 e3 e4 e1
    exact ⟨T, hT, hTg, hTn, rfl, hcap, hmax, rfl, f, hg, h1, fun i j hi hj => by have := hc i j hi hj; rw [Nat.zero_add] at this; exact this, hr⟩
theorem Sim.setOwn (h : Sim W E0 w0 M N σ E a w) (hF : Fresh E0 w0) (hB0 : E0.box = fun _ _ => none) (hM : ∀ b, ¬ M b) {k g sz : Nat} {es : List D} (ht : σ.tp k = some (g, es.length)) (h0 : 0 < sz) {i : Nat} (hi : i < es.length) {v : Value} {d : D} (hv : Rep E w v d) (hs : d.solid = true) (hdl : d.cells.length = sz) (hdc : ClosedC d) (hec : ∀ e ∈ es, ClosedC e)
    {ty : TypeId} (hty : tsz P ty = some sz) (tS : Nat) (keep : Nat → Bool) (hS : σ.fr tS = .sl sz es (.op k g)) (hkeep : ∀ t, keep t = true → Closed (σ.fr t)) :
    ∃ T w', E.top k = some T ∧ (Instr.storeAt ty (.pointer (some ⟨T.blk, i * sz, none⟩)) v).run P w = .ok () w' ∧
      Sim W E0 w0 M N ⟨fun t => if t = tS then .sl sz (es.set i d) (.op k g) else if keep t then σ.fr t else .u, fun _ _ => none, σ.tp, σ.c⟩ E.nobox a w' := by
  have hb := h.base
  have hf3 := h.fr tS
  rw [hS] at hf3
  obtain ⟨T, hT, hTg, hTn, hTsz, hcapn, hmax, hva, f, hg, h1, hc, hr⟩ := own_at h hf3 ht
  obtain ⟨q1, q2, q3, q4, q5, q6, cur, e, h5, h6⟩ := hb.top.at_ k T hT
  have hw0 : w0.heap.size ≤ T.blk := q6.resolve_right (hM _)
  have hcells := hv.cellsOf hs
  have hvl : v.cells.toList.length = sz := by rw [← hdl]; simpa using hcells.1
  have h1c : ∀ x ∈ v.cells.toList, x.oneCell' = true := by
    intro x hx
    obtain ⟨j, hj, rfl⟩ := List.getElem_of_mem hx
    have := (hcells.2 j (by omega)).1
    have hj' : j < v.cells.size := by simpa using hj
    simpa [List.getD, hj'] using this
  have hin : i * sz + sz ≤ es.length * sz := by
    have := Nat.mul_le_mul_right sz (show i + 1 ≤ es.length from hi)
    rw [Nat.add_mul] at this
    omega
  have hcs : es.length * sz ≤ cur.size := by rw [h6, hTsz]; exact Nat.mul_le_mul_right _ hcapn
  have hst := run_storeCells_at P T.blk (i * sz) e v.cells.toList 0 cur w h5 (by rw [hvl]; omega) h1c
  simp only [Nat.add_zero] at hst
  obtain ⟨nc, hnc⟩ : ∃ nc, nc = (cur.toList.take (i * sz) ++ v.cells.toList ++ cur.toList.drop (i * sz + v.cells.toList.length)).toArray := ⟨_, rfl⟩
  rw [← hnc] at hst
  have hsp : nc.toList = splice cur.toList (i * sz) v.cells.toList := by rw [hnc]; simp [splice]
  have hspl : i * sz + v.cells.toList.length ≤ cur.toList.length := by rw [hvl, Array.length_toList]; omega
  have hncs : nc.size = cur.size := by rw [← Array.length_toList, hsp, splice_len _ _ _ hspl, Array.length_toList]
  have hrow := setRow_heap w T.blk cur nc e (0, 0) h5
  have hoth : ∀ b x, b ≠ T.blk → (w.setRow T.blk nc).cell? ⟨b, x, none⟩ = w.cell? ⟨b, x, none⟩ := fun b x hb => cell_setRow_other w T.blk nc ⟨b, x, none⟩ hb
  refine ⟨T, w.setRow T.blk nc, hT, ?_, ?_⟩
  · simp only [Instr.storeAt, Instr.sureAddr, Sem.run_bind, Sem.run_pure, Result.andThen_ok, storeVar, run_sizeOf_tsz hty, Sem.run_ite]
    rw [if_neg (by rw [hcells.1, hdl]; simp)]
    exact hst
  · have hE0T : ∀ x, ¬ x < E0.pr T.blk := fun x hx => by rw [hF _ hw0] at hx; exact Nat.not_lt_zero _ hx
    refine ⟨⟨⟨fun k' g' b hb' => (by cases hb'), fun k' g' k2 g2 b hb' => (by cases hb'), fun k' g' b k2 T2 hb' => (by cases hb')⟩, ⟨hb.top.to, fun k' T' hT' => ?_, hb.top.inj⟩, fun b hge => hb.fresh b (by simpa using hge), hb.kp.setRow (.inl hw0) nc, ⟨hb.ext.pr, fun b o ho => ?_, fun k' g' b hb' => ?_, hb.ext.top, hb.ext.c⟩, hb.c, hb.old, ?_, hb.wle, hb.mle⟩, h.size, h.defers, fun t => ?_⟩
    · obtain ⟨r1, r2, r3, r4, r5, r6, cur', e', r7, r8⟩ := hb.top.at_ k' T' hT'
      refine ⟨r1, r2, r3, r4, r5, r6, ?_⟩
      by_cases hbb : T'.blk = T.blk
      · rw [hbb] at r7 ⊢
        rw [h5] at r7
        injection r7 with r7
        injection r7 with r7 r7'
        subst r7
        exact ⟨nc, e, hrow, by rw [hncs]; exact r8⟩
      · exact ⟨cur', e', by rw [setRow_other w T.blk T'.blk nc hbb]; exact r7, r8⟩
    · rw [hoth b o (fun hh => hE0T o (hh ▸ ho))]
      exact hb.ext.cell b o ho
    · rw [hB0] at hb'; cases hb'
    · have hk := hb.glob
      exact ⟨hk.os, hk.tape, hk.output, by rw [setRow_size]; exact hk.size, fun b hlt => (setRow_other w T.blk b nc (by have := hb.wle; omega)).trans (hk.block b hlt)⟩
    · show Rep E.nobox _ _ (if t = tS then _ else _)
      split
      · rename_i htt
        subst htt
        rw [hva]
        have hcur : ∀ p j, p < es.length → j < sz → p * sz + j < cur.size ∧ cur.toList.getD (p * sz + j) undef = f p j := by
          intro p j hp hj
          have h2 := (hc p j hp hj).1
          rw [cell_of_row w T.blk (p * sz + j) cur e (0, 0) h5] at h2
          have hlt := (Array.getElem?_eq_some_iff.1 h2).1
          refine ⟨hlt, ?_⟩
          simp only [List.getD, Array.getElem?_toList, h2, Option.getD_some]
        have hnew : ∀ p j, p < es.length → j < sz → (w.setRow T.blk nc).cell? ⟨T.blk, p * sz + j, none⟩ = some (if p = i then v.cells.toList.getD j undef else f p j) := by
          intro p j hp hj
          obtain ⟨hlt, hval⟩ := hcur p j hp hj
          rw [cell_of_row _ T.blk (p * sz + j) nc e (0, 0) hrow]
          have hlt' : p * sz + j < nc.size := by omega
          have h3 : nc.toList.getD (p * sz + j) undef = nc[p * sz + j] := by simp [List.getD, hlt']
          rw [Array.getElem?_eq_getElem hlt', ← h3, hsp, splice_getD _ _ _ _ hspl, hvl]
          by_cases hpi : p = i
          · subst hpi
            rw [if_pos (by omega), if_pos rfl, Nat.add_sub_cancel_left]
          · rw [if_neg, if_neg hpi, hval]
            intro hh
            rcases Nat.lt_or_gt_of_ne hpi with hl | hl
            · have := Nat.mul_le_mul_right sz (show p + 1 ≤ i from hl); rw [Nat.add_mul] at this; omega
            · have := Nat.mul_le_mul_right sz (show i + 1 ≤ p from hl); rw [Nat.add_mul] at this; omega
        refine .sl T.blk 0 es.length T.cap sz _ _ (fun p j => if p = i then v.cells.toList.getD j undef else f p j) (by simp) hcapn hmax ⟨by have := q1; rw [hTg] at this; exact this, fun T2 hT2 _ _ => ?_⟩ (fun d' hd' => ?_) (fun p j hp hj => ?_) (fun p j hp hj => ?_) (fun p j hp hj => ?_)
        · have : E.top k = some T2 := hT2
          rw [hT] at this
          injection this with this
          subst this
          exact ⟨rfl, rfl, rfl, hTsz.symm⟩
        · rcases List.mem_or_eq_of_mem_set hd' with hm | rfl
          · exact hg _ hm
          · exact hdl
        · show Value.oneCell' (if p = i then _ else _) = true
          split
          · exact (hcells.2 j (by omega)).1
          · exact h1 p j hp hj
        · rw [Nat.zero_add]
          exact ⟨hnew p j hp hj, (hc p j hp hj).2⟩
        · show Rep E.nobox _ (if p = i then _ else _) (((es.set i d).getD p .u).cells.getD j .u)
          by_cases hpi : p = i
          · subst hpi
            have : (es.set p d).getD p .u = d := by simp [List.getD, hp]
            rw [this, if_pos rfl]
            exact hdc.at_ (by omega) _ _ _ _ _ (hcells.2 j (by omega)).2
          · have : (es.set i d).getD p .u = es.getD p .u := by simp [List.getD, List.getElem?_set_ne (Ne.symm hpi)]
            rw [this, if_neg hpi]
            have hpm : es.getD p .u ∈ es := by simp [List.getD, List.getElem?_eq_getElem hp]
            exact (hec _ hpm).at_ (by rw [hg _ hpm]; exact hj) _ _ _ _ _ (hr p j hp hj)
      · split
        · rename_i hkt
          exact hkeep t hkt _ _ _ _ _ (h.fr t)
        · exact .u _
/-- What code does, whatever run stands behind. -/
def SW (P : Program) (W : World) (thr : FuncId → Bool) (E0 : Env) (w0 : World) (M : Nat → Prop) (N : Nat) (c : Code) (σ : St) (Q : Exit → St → Prop) : Prop :=
  P.follows .mixedOrders = true → codeOk P thr N c = true → ∀ (E : Env) (a : Act) (w : World), Wf σ → Sim W E0 w0 M N σ E a w → c.wp P (Post W E0 w0 M N Q) a w
theorem SW_of {c : Code} {Q : Exit → St → Prop} (h : CW P W thr c σ Q) : SW P W thr E0 w0 M N c σ Q := fun hm hok E a w hwf hs => code_sound hm c σ Q hok h hwf E a w hs
theorem SW_seq1 {x y : Code} {Q : Exit → St → Prop} (h : SW P W thr E0 w0 M N x σ fun e τ => match e with
    | .normal => SW P W thr E0 w0 M N y τ Q
    | e => Q e τ) : SW P W thr E0 w0 M N (.seq x y) σ Q := fun hm hok E a w hwf hs => by
  simp only [codeOk, Bool.and_eq_true] at hok
  refine wp_seq (wp_mono (h hm hok.1 E a w hwf hs) ?_)
  rintro e a' w' ⟨τ, E', hwf', hs', hq⟩
  cases e with
  | normal => exact hq hm hok.2 E' a' w' hwf' hs'
  | _ => exact ⟨τ, E', hwf', hs', hq⟩
theorem SW_reg1 {id : Nat} {dr : Bool} {Q : Exit → St → Prop} (h : ∀ K : St → Prop, (∀ τ, Q .normal τ → K τ) → RW P W thr ops ops.toList σ K) : SW P W thr E0 w0 M N (.region id ops dr) σ Q := SW_of (CW_reg1 h)
theorem SW_reg {id : Nat} {dr : Bool} {b : Code} {Q : Exit → St → Prop} (h : ∀ K : St → Prop, (∀ τ, SW P W thr E0 w0 M N b τ Q → K τ) → RW P W thr ops ops.toList σ K) : SW P W thr E0 w0 M N (.seq (.region id ops dr) b) σ Q := SW_seq1 (SW_reg1 h)
theorem SW_sk {Q : Exit → St → Prop} (h : Q .normal σ) : SW P W thr E0 w0 M N .skip σ Q := SW_of h
theorem SW_ex {id : Nat} {Q : Exit → St → Prop} (h : Q (.exit id) σ) : SW P W thr E0 w0 M N (.exit id) σ Q := SW_of h
theorem SW_rt {Q : Exit → St → Prop} (h : Q .ret σ) : SW P W thr E0 w0 M N .ret σ Q := SW_of h
theorem SW_cond {c : Operand} {x y : Code} {t : Bool} {Q : Exit → St → Prop} (hc : σ.ev c = .b t) (h1 : t = true → SW P W thr E0 w0 M N x σ Q) (h2 : t = false → SW P W thr E0 w0 M N y σ Q) : SW P W thr E0 w0 M N (.cond c x y) σ Q := fun hm hok E a w hwf hs => by
  simp only [codeOk, Bool.and_eq_true] at hok
  have hv := hs.ev c
  rw [hc] at hv
  generalize hq : a.eval c = v at hv
  cases hv
  cases t
  · exact wp_cond_false hq (h2 rfl hm hok.2 E a w hwf hs)
  · exact wp_cond_true hq (h1 rfl hm hok.1 E a w hwf hs)
theorem SW_yes {c : Operand} {x y : Code} {Q : Exit → St → Prop} (hc : σ.ev c = .b true) (h : SW P W thr E0 w0 M N x σ Q) : SW P W thr E0 w0 M N (.cond c x y) σ Q := SW_cond hc (fun _ => h) (fun e => by cases e)
theorem SW_no {c : Operand} {x y : Code} {Q : Exit → St → Prop} (hc : σ.ev c = .b false) (h : SW P W thr E0 w0 M N y σ Q) : SW P W thr E0 w0 M N (.cond c x y) σ Q := SW_cond hc (fun e => by cases e) (fun _ => h)
theorem SW_block {id : Nat} {b : Code} {Q : Exit → St → Prop} (h : SW P W thr E0 w0 M N b σ fun x τ => match x with
    | .exit i => if i = id then Q .normal τ else Q (.exit i) τ
    | x => Q x τ) : SW P W thr E0 w0 M N (.block id b) σ Q := fun hm hok E a w hwf hs => by
  simp only [codeOk] at hok
  refine wp_block (wp_mono (h hm hok E a w hwf hs) ?_)
  rintro e a' w' ⟨τ, E', hwf', hs', hq⟩
  cases e with
  | exit i =>
    simp only [Exit.inBlock] at hq ⊢
    split
    · rename_i hi; rw [if_pos hi] at hq; exact ⟨τ, E', hwf', hs', hq⟩
    · rename_i hi; rw [if_neg hi] at hq; exact ⟨τ, E', hwf', hs', hq⟩
  | _ => exact ⟨τ, E', hwf', hs', hq⟩
theorem SW_blk {id : Nat} {b : Code} {Q : Exit → St → Prop}
    (h : ∀ K : Exit → St → Prop, (∀ τ', Q .normal τ' → K .normal τ') → (∀ τ', Q .normal τ' → K (.exit id) τ') → (∀ τ', Q .ret τ' → K .ret τ') → (∀ j τ', j ≠ id → Q (.exit j) τ' → K (.exit j) τ') → SW P W thr E0 w0 M N b σ K) : SW P W thr E0 w0 M N (.block id b) σ Q := by
  refine SW_block (h _ (fun τ' hq => hq) (fun τ' hq => ?_) (fun τ' hq => hq) (fun j τ' hj hq => ?_))
  · simp only [if_true]; exact hq
  · simp only [hj, if_false]; exact hq
theorem SW_for {id : Nat} {b : Code} {Q : Exit → St → Prop} (I : Nat → St → Prop) (n : Nat) (h0 : I n σ)
    (h : ∀ n τ, I n τ → ∀ K : Exit → St → Prop, (∀ m τ', m < n → I m τ' → K .normal τ') → (∀ τ', Q .normal τ' → K (.exit id) τ') → (∀ τ', Q .ret τ' → K .ret τ') → (∀ j τ', j ≠ id → Q (.exit j) τ' → K (.exit j) τ') → SW P W thr E0 w0 M N b τ K) : SW P W thr E0 w0 M N (.block id (.loop b)) σ Q := by
  refine SW_block fun hm hok E a w hwf hs => ?_
  simp only [codeOk] at hok
  refine wp_loop_n (fun n a w => ∃ τ E, Wf τ ∧ Sim W E0 w0 M N τ E a w ∧ I n τ) n ⟨σ, E, hwf, hs, h0⟩ ?_
  rintro n a w ⟨τ, E, hwf', hs', hI⟩
  refine wp_mono (h n τ hI (fun x τ' => match x with
    | .normal => ∃ m, m < n ∧ I m τ'
    | .exit i => if i = id then Q .normal τ' else Q (.exit i) τ'
    | x => Q x τ') (fun m τ' hm hI' => ⟨m, hm, hI'⟩) (fun τ' hq => ?_) (fun τ' hq => hq) (fun j τ' hj hq => ?_) hm hok E a w hwf' hs') ?_
  · simp only [if_true]; exact hq
  · simp only [hj, if_false]; exact hq
  · rintro e a' w' ⟨τ', E', hwf'', hs'', hq⟩
    cases e with
    | normal =>
      obtain ⟨m, hlt, hI'⟩ := hq
      exact ⟨m, hlt, τ', E', hwf'', hs'', hI'⟩
    | _ => exact ⟨τ', E', hwf'', hs'', hq⟩
theorem wf_none (fr : Nat → D) (tp : Nat → Option (Nat × Nat)) (c : Nat) : Wf ⟨fr, fun _ _ => none, tp, c⟩ := fun k g h => absurd rfl h
theorem ch_then (hok : ∀ o ∈ ops, opOk P N o = true) {Q : Exit → Act → World → Prop} {τ : St} (l2 : List Nat) : ∀ (l : List Nat) (σ : St), Ch P W thr ops l σ τ → ∀ (E : Env) (a : Act) (w : World), Sim W E0 w0 M N σ E a w → (∀ E a w, Sim W E0 w0 M N τ E a w → wpOps P ops Q l2 a w) → wpOps P ops Q (l ++ l2) a w := by
  intro l σ hc
  induction hc with
  | nil σ => intro E a w h hQ; exact hQ _ _ _ h
  | @cons i l o σ σ' τ ho hs ht ih =>
    intro E a w h hQ
    rw [List.cons_append, wpOps_cons]
    exact stepR_sound ho (hok o (Array.mem_of_getElem? ho)) h hs (fun E' a' w' h' => ih E' a' w' h' hQ)
/-- What is left behind a store into a slice of the function's own. -/
def St.setOwn (σ : St) (tS : Nat) (keep : Nat → Bool) (r : D) : St := ⟨fun t => if t = tS then r else if keep t then σ.fr t else .u, fun _ _ => none, σ.tp, σ.c⟩
/-- What an operation does not write stays. -/
theorem put_keep (a : Act) {dst : Option Tmp} {t : Nat} (h : dst ≠ some t) (v : Value) : (a.put dst v).tmps.getD t undef = a.tmps.getD t undef := by
  cases dst with
  | none => rfl
  | some k =>
    have : k ≠ t := fun e => h (by rw [e])
    simp [Act.put, Array.getElem?_setIfInBounds_ne this]
theorem wpOp_keep {i t : Nat} {Q Q' : Exit → Act → World → Prop} {K : Act → World → Prop} (hd : ∀ o, ops[i]? = some o → o.dst ≠ some t) (hQ : ∀ e a w, e ≠ .normal → ¬ Q e a w) (h : wpOp P ops Q i K a w) :
    wpOp P ops Q' i (fun a' w' => a'.tmps.getD t undef = a.tmps.getD t undef ∧ K a' w') a w := by
  have hL : ¬ LetsOut Q := fun ⟨a, w, h⟩ => hQ _ a w (by simp) h
  unfold wpOp at h ⊢
  split
  · rename_i ho
    simp only [ho] at h
    exact ⟨rfl, h⟩
  · rename_i o ho
    simp only [ho] at h
    have hdo := hd o ho
    split
    · rename_i hw
      simp only [hw, if_true] at h
      refine .inl ?_
      have h := h.resolve_right fun hh => hL hh.2
      unfold Oper.wp at h ⊢
      generalize (execOp a.eval o).run P w = r at *
      cases r with
      | ok n w' =>
        cases n <;> simp only [Oper.upon] at h ⊢ <;>
          first
            | exact ⟨put_keep _ hdo _, h⟩
            | exact Calls.mono h (fun e w'' he => by cases e <;> first | exact ⟨put_keep _ hdo _, he⟩ | exact absurd he (hQ _ _ _ (by simp)) | exact absurd he hL)
            | exact Rows.mono h (fun _ _ he => ⟨put_keep _ hdo _, he⟩)
      | halt x w' => cases x <;> simp only [Oper.upon] at h ⊢ <;> first | exact absurd h (hQ _ _ _ (by simp)) | exact h
    · rename_i hw
      simp only [hw] at h
      exact ⟨put_keep _ hdo _, h⟩
theorem wpOps_keep {t : Nat} {v : Value} {Q : Exit → Act → World → Prop} (hd : ∀ o ∈ ops, o.dst ≠ some t) (hQ : ∀ e a w, e ≠ .normal → ¬ Q e a w) : ∀ (l : List Nat) (a : Act) (w : World), a.tmps.getD t undef = v → wpOps P ops Q l a w → wpOps P ops (fun e a' w' => Q e a' w' ∧ a'.tmps.getD t undef = v) l a w
  | [], a, w, hv, h => ⟨h, hv⟩
  | i :: l, a, w, hv, h => by
    rw [wpOps_cons] at h ⊢
    refine wpOp_mono ?_ (wpOp_keep (t := t) (fun o ho => hd o (Array.mem_of_getElem? ho)) hQ h)
    rintro a' w' ⟨h1, h2⟩
    exact wpOps_keep hd hQ l a' w' (h1.trans hv) h2
theorem wpAny_keep {t : Nat} {v : Value} {Q : Exit → Act → World → Prop} (hd : ∀ o ∈ ops, o.dst ≠ some t) (hQ : ∀ e a w, e ≠ .normal → ¬ Q e a w) : ∀ (fuel : Nat) (listed : Array Bool) (a : Act) (w : World), a.tmps.getD t undef = v → wpAny P .any ops Q fuel listed a w → wpAny P .any ops (fun e a' w' => Q e a' w' ∧ a'.tmps.getD t undef = v) fuel listed a w
  | 0, listed, a, w, hv, h => ⟨h.1, h.2, hv⟩
  | fuel + 1, listed, a, w, hv, h => by
    refine ⟨fun hr => ⟨h.1 hr, hv⟩, fun i hi => ?_⟩
    refine wpOp_mono ?_ (wpOp_keep (t := t) (fun o ho => hd o (Array.mem_of_getElem? ho)) hQ (h.2 i hi))
    rintro a' w' ⟨h1, h2⟩
    exact wpAny_keep hd hQ fuel _ a' w' (h1.trans hv) h2
def St.see (σ : St) (t : Nat) (d : D) : St := { σ with fr := upd σ.fr t d }
theorem Sim.see (h : Sim W E0 w0 M N σ E a w) {t : Nat} {d : D} (hv : Rep E w (a.tmps.getD t undef) d) : Sim W E0 w0 M N (σ.see t d) E a w :=
  ⟨⟨h.base.box, h.base.top, h.base.fresh, h.base.kp, h.base.ext, h.base.c, h.base.old, h.base.glob, h.base.wle, h.base.mle⟩, h.size, h.defers, fun k => by
    show Rep E w _ (upd σ.fr t d k)
    by_cases hk : k = t
    · subst hk; rw [upd_same]; exact hv
    · rw [upd_other _ _ hk]; exact h.fr k⟩
/-- A region looks at what it was handed, known by its value. -/
theorem SW_view {id : Nat} {dr : Bool} {t : Nat} {v : Value} {d : D} {Q : Exit → St → Prop} (hv : σ.fr t = .v v) (hd : Rep E0 w0 v d) (ht' : (ops.all fun o => o.dst != some t) = true)
    (h : ∀ K : St → Prop, (∀ τ, Q .normal (τ.see t (.v v)) → K τ) → RW P W thr ops ops.toList (σ.see t d) K) : SW P W thr E0 w0 M N (.region id ops dr) σ Q := by
  intro hm hok E a w hwf hs
  simp only [codeOk, Bool.and_eq_true, Array.all_eq_true_iff_forall_mem, Bool.or_eq_true, Bool.not_eq_true'] at hok
  have ht : ∀ o ∈ ops, o.dst ≠ some t := fun o ho => by simpa using Array.all_eq_true_iff_forall_mem.1 ht' o ho
  have hval : a.tmps.getD t undef = v := by
    have := hs.fr t
    rw [hv] at this
    generalize a.tmps.getD t undef = x at this
    cases this
    rfl
  have hs1 : Sim W E0 w0 M N (σ.see t d) E a w := hs.see (by rw [hval]; exact hd.ext hs.base.ext)
  have hwf1 : Wf (σ.see t d) := hwf
  obtain ⟨τ, hc, hR⟩ := RW_ch ops.toList 0 (σ.see t d) (fun j hj => by simp) (h _ fun τ hq => hq)
  have hwfτ : Wf τ := by
    clear h hR hs1
    revert hwf1
    generalize List.range' 0 ops.toList.length = l at hc
    generalize σ.see t d = σ1 at hc
    induction hc with
    | nil σ => exact fun h => h
    | cons ho hs ht ih => exact fun h => ih (wf_step h hs)
  have hl : List.range' 0 ops.toList.length = List.range ops.size := by rw [List.range_eq_range', Array.length_toList]
  rw [hl] at hc
  have fin : ∀ e a' w', (e = .normal ∧ ∃ E', Sim W E0 w0 M N τ E' a' w') ∧ a'.tmps.getD t undef = v → Post W E0 w0 M N Q e a' w' := by
    rintro e a' w' ⟨⟨rfl, E', hs'⟩, hk⟩
    exact ⟨τ.see t (.v v), E', hwfτ, hs'.see (by rw [hk]; exact .v v), hR⟩
  have hQ0 : ∀ (e : Exit) (a : Act) (w : World), e ≠ .normal → ¬ (e = .normal ∧ ∃ E', Sim W E0 w0 M N τ E' a w) := fun e a w hn hh => hn hh.1
  refine wp_mono ?_ fin
  cases dr with
  | false => exact wp_region (wpOps_keep ht hQ0 _ _ _ hval (ch_sound hok.1 _ _ hc E a w hs1 fun E a w hs => ⟨rfl, E, hs⟩))
  | true =>
    refine wp_region_any hm (wpAny_keep ht hQ0 _ _ _ _ hval (any_sound hok.1 (hok.2.resolve_left (by simp)) (fun E a w hs => ⟨rfl, E, hs⟩) _ _ (σ.see t d) E a _ (by simp) ?_ (fun i hi hli => ?_) hwf1 ?_ ?_))
    · have : rem ops.size (Array.replicate ops.size false) = List.range ops.size := by
        unfold rem
        exact List.filter_eq_self.2 fun i hi => by simp [List.mem_range.1 hi]
      rw [this]
      exact hc
    · simp [hi] at hli
    · have hq : Qs E w E { w with drawn := w.drawn + 1 } := ⟨⟨fun _ => Nat.le_refl _, fun _ _ _ => rfl, fun _ _ _ h => h, fun _ _ h _ => h, Nat.le_refl _⟩, ⟨rfl, rfl, rfl, Nat.le_refl _, fun _ _ => rfl⟩, rfl, rfl, rfl, fun _ _ => rfl, hs1.base.fresh⟩
      exact ⟨hs1.base.q hq, hs1.size, hs1.defers, fun t => (hs1.fr t).ext hq.ext⟩
    · have : (rem ops.size (Array.replicate ops.size false)).length ≤ (List.range ops.size).length := List.length_filter_le _ _
      simpa using this
/-- A region whose last two operations store into a slice of the function's own. -/
theorem SW_set {id : Nat} (n : Nat) {t0 : Nat} {v0 : Value} {d0 : D} {tA sS sI sV tS : Nat} {tsl te ty1 ty2 : TypeId} {p1 p2 : String} {af1 af2 : Array Edge} {keep : Nat → Bool} {Q : Exit → St → Prop} (hl : ops.toList = ops.toList.take n ++ [⟨some tA, .indexAddr tsl (.tmp sS) (.tmp sI), ty1, p1, af1, none⟩, ⟨none, .store te (.tmp tA) (.tmp sV), ty2, p2, af2, none⟩])
    (hv0 : σ.fr t0 = .v v0) (hd0 : Rep E0 w0 v0 d0) (ht0 : (ops.all fun o => o.dst != some t0) = true) (hF : Fresh E0 w0) (hB0 : E0.box = fun _ _ => none) (hM : ∀ b, ¬ M b) (hu : P.underlying tsl = some (.slice te)) (hA : tA ≠ tS ∧ tA ≠ sV ∧ keep tA = false) 
    (h : ∀ K : St → Prop, (∀ τ, ((∀ t, keep t = true → Closed (τ.fr t)) ∧ ∃ k g sz es i kk d, τ.tp k = some (g, es.length) ∧ 0 < sz ∧ tsz P te = some sz ∧ τ.fr sS = .sl sz es (.op k g) ∧ τ.fr tS = .sl sz es (.op k g) ∧ τ.fr sI = .i kk ((i : Nat) : Int) ∧ i < es.length ∧
      τ.fr sV = d ∧ d.solid = true ∧ d.cells.length = sz ∧ ClosedC d ∧ (∀ e ∈ es, ClosedC e) ∧ Q .normal ((τ.setOwn tS keep (.sl sz (es.set i d) (.op k g))).see t0 (.v v0))) → K τ) → RW P W thr ops (ops.toList.take n) (σ.see t0 d0) K) : SW P W thr E0 w0 M N (.region id ops false) σ Q := fun hm hok E a w hwf hs => by
  have hval : a.tmps.getD t0 undef = v0 := by
    have := hs.fr t0
    rw [hv0] at this
    generalize a.tmps.getD t0 undef = x at this
    cases this
    rfl
  replace hs : Sim W E0 w0 M N (σ.see t0 d0) E a w := hs.see (by rw [hval]; exact hd0.ext hs.base.ext)
  have hnd : ∀ o ∈ ops, o.dst ≠ some t0 := fun o ho => by simpa using Array.all_eq_true_iff_forall_mem.1 ht0 o ho
  obtain ⟨l, hln⟩ : ∃ l, l = ops.toList.take n := ⟨_, rfl⟩
  rw [← hln] at hl h
  replace h := h _ fun τ h => h
  simp only [codeOk, Bool.and_eq_true, Array.all_eq_true_iff_forall_mem, Bool.or_eq_true, Bool.not_eq_true'] at hok
  have hsz : ops.size = l.length + 2 := by rw [← Array.length_toList, hl]; simp
  have hat : ∀ j, ops[j]? = (l ++ [⟨some tA, .indexAddr tsl (.tmp sS) (.tmp sI), ty1, p1, af1, none⟩, ⟨none, .store te (.tmp tA) (.tmp sV), ty2, p2, af2, none⟩])[j]? := fun j => by rw [← hl, Array.getElem?_toList]
  obtain ⟨τ, hc, hkp, k, g, sz, es, i, kk, d, ht, h0, hty, e1, e2, e3, hi, e4, hsol, hdl, hdc, hec, hq⟩ := RW_ch l 0 (σ.see t0 d0) (fun j hj => by rw [Nat.zero_add, hat, List.getElem?_append_left hj]) h
  have fin : ∀ e a' w', (e = .normal ∧ ∃ E', Sim W E0 w0 M N (τ.setOwn tS keep (.sl sz (es.set i d) (.op k g))) E' a' w') ∧ a'.tmps.getD t0 undef = v0 → Post W E0 w0 M N Q e a' w' := by
    rintro e a' w' ⟨⟨rfl, E', hs'⟩, hk⟩
    exact ⟨_, E', wf_none _ _ _, hs'.see (by rw [hk]; exact .v v0), hq⟩
  refine wp_mono (wp_region (wpOps_keep (Q := fun e a' w' => e = .normal ∧ ∃ E', Sim W E0 w0 M N (τ.setOwn tS keep (.sl sz (es.set i d) (.op k g))) E' a' w') hnd (fun e a w hn hh => hn hh.1) _ _ _ hval ?_)) fin
  have hr : List.range ops.size = List.range' 0 l.length ++ [l.length, l.length + 1] := by
    rw [hsz, List.range_succ, List.range_succ, List.range_eq_range', List.append_assoc]
    rfl
  rw [hr]
  refine ch_then hok.1 _ _ _ hc E a w hs fun E1 a1 w1 hs1 => ?_
  have ho1 : ops[l.length]? = some ⟨some tA, .indexAddr tsl (.tmp sS) (.tmp sI), ty1, p1, af1, none⟩ := by rw [hat]; simp
  have ho2 : ops[l.length + 1]? = some ⟨none, .store te (.tmp tA) (.tmp sV), ty2, p2, af2, none⟩ := by rw [hat]; simp
  have hdA : tA < N := by
    have := hok.1 _ (Array.mem_of_getElem? ho1)
    unfold opOk at this
    simpa using this
  have hS := hs1.fr sS
  rw [e1] at hS
  obtain ⟨T, hT, hTg, hTn, hTsz, hcapn, hmax, hva, f, hg, h1, hcc, hrr⟩ := own_at hs1 hS ht
  have hI := hs1.fr sI
  rw [e3] at hI
  rw [wpOps_cons]
  unfold wpOp
  simp only [ho1]
  rw [if_pos (by rfl)]
  refine .inl ?_
  unfold Oper.wp
  have hrun : (execOp a1.eval ⟨some tA, .indexAddr tsl (.tmp sS) (.tmp sI), ty1, p1, af1, none⟩).run P w1 = .ok (.value (.pointer (some ⟨T.blk, i * sz, none⟩))) w1 := by
    have hx : (Instr.indexAt tsl (a1.eval (.tmp sS)) (a1.eval (.tmp sI))).run P w1 = .ok (.pointer (some ⟨T.blk, i * sz, none⟩)) w1 := by
      show (Instr.indexAt tsl (a1.tmps.getD sS undef) (a1.tmps.getD sI undef)).run P w1 = _
      rw [hva]
      generalize a1.tmps.getD sI undef = vi at hI
      cases hI
      simp [Instr.indexAt, asIntOf, run_underlying hu, run_sizeOf_tsz hty, add_eq, hi]
    simp [execOp, hx]
  rw [hrun, Oper.upon_value]
  have hs2 := hs1.q (Qs.refl hs1.base.fresh) (dst := some tA) (fun t ht => by injection ht with ht; exact ht ▸ hdA) (.u (.pointer (some ⟨T.blk, i * sz, none⟩)))
  have hfr : ∀ t, t ≠ tA → (τ.put (some tA) .u).fr t = τ.fr t := fun t ht => upd_other _ _ ht
  have hV := hs2.fr sV
  rw [hfr sV (Ne.symm hA.2.1), e4] at hV
  obtain ⟨T', w', hT', hrun2, hs3⟩ := hs2.setOwn hF hB0 hM ht h0 hi hV hsol hdl hdc hec hty tS keep (by rw [hfr tS (Ne.symm hA.1)]; exact e2) (fun t hkt => by
    rw [hfr t (fun hh => by rw [hh, hA.2.2] at hkt; cases hkt)]
    exact hkp t hkt)
  rw [hT] at hT'
  injection hT' with hT'
  subst hT'
  have hptr : (a1.put (some tA) (.pointer (some ⟨T.blk, i * sz, none⟩))).eval (.tmp tA) = .pointer (some ⟨T.blk, i * sz, none⟩) := by
    have : tA < a1.tmps.size := by rw [hs1.size]; exact hdA
    simp [Act.eval, Act.put, this]
  rw [wpOps_cons]
  unfold wpOp
  simp only [ho2]
  rw [if_pos (by rfl)]
  refine .inl ?_
  unfold Oper.wp
  have hrun3 : (execOp (a1.put (some tA) (.pointer (some ⟨T.blk, i * sz, none⟩))).eval ⟨none, .store te (.tmp tA) (.tmp sV), ty2, p2, af2, none⟩).run P w1 = .ok .skip w' := by
    have hrun2' : (Instr.storeAt te (.pointer (some ⟨T.blk, i * sz, none⟩)) ((a1.put (some tA) (.pointer (some ⟨T.blk, i * sz, none⟩))).eval (.tmp sV))).run P w1 = .ok () w' := hrun2
    simp only [execOp, hptr, Sem.run_bind, hrun2', Result.andThen_ok, Sem.run_pure]
  rw [hrun3, Oper.upon_skip]
  refine ⟨rfl, E1.nobox, ?_⟩
  have he : τ.setOwn tS keep (.sl sz (es.set i d) (.op k g)) = ⟨fun t => if t = tS then .sl sz (es.set i d) (.op k g) else if keep t then (τ.put (some tA) .u).fr t else .u, fun _ _ => none, (τ.put (some tA) .u).tp, (τ.put (some tA) .u).c⟩ := by
    unfold St.setOwn
    congr 1
    funext t
    by_cases h1 : t = tS
    · simp [h1]
    · cases hkt : keep t with
      | false => simp
      | true => simp only [if_neg h1, if_true]; exact (hfr t (fun hh => by rw [hh, hA.2.2] at hkt; cases hkt)).symm
  rw [he]
  exact hs3
end
end Go.Sh
