/- The shadow's state and what writes: new variables, stores, appends. No condition. -/
import Derived.Test.YtobamidecbfgpaaGreatDoorSh4
/- The shadow's operations, all that answer a value: opD, and that the run answers so (op_sound). No condition. -/
namespace Go.Sh
open Go.RowKit
set_option linter.unusedVariables false
section
variable {P : Program}
def byteD (b : UInt8) : D := .i .u8 b.toNat
def toB : D → Option Int
  | .i .u8 n => some n
  | _ => none
def toBs : List D → Option (List Int)
  | [] => some []
  | d :: r => match toB d, toBs r with
    | some b, some l => some (b :: l)
    | _, _ => none
def unB (l : List Int) : List UInt8 := l.map fun n => UInt8.ofNat n.toNat
theorem toBs_bytes (l : List UInt8) : toBs (l.map byteD) = some (l.map fun b => (b.toNat : Int)) := by
  induction l with
  | nil => rfl
  | cons b l ih => simp [toBs, toB, byteD, ih]
theorem unB_bytes (l : List UInt8) : unB (l.map fun b => (b.toNat : Int)) = l := by
  simp only [unB, List.map_map]
  have : ((fun n : Int => UInt8.ofNat n.toNat) ∘ fun b : UInt8 => (b.toNat : Int)) = id := by
    funext b
    simp
  rw [this, List.map_id]
theorem toBs_spec : ∀ (es : List D) (ns : List Int), toBs es = some ns → ns.length = es.length ∧ ∀ j, j < es.length → es.getD j .u = .i .u8 (ns.getD j 0)
  | [], ns, h => by
    simp [toBs] at h
    subst h
    exact ⟨rfl, fun j hj => absurd hj (Nat.not_lt_zero _)⟩
  | d :: es, ns, h => by
    unfold toBs at h
    split at h
    · rename_i b l hb hl
      injection h with h
      subst h
      obtain ⟨h1, h2⟩ := toBs_spec es l hl
      refine ⟨by simp [h1], fun j hj => ?_⟩
      cases j with
      | zero =>
        unfold toB at hb
        split at hb
        · injection hb with hb
          subst hb
          rfl
        · cases hb
      | succ j => exact h2 j (by simpa using hj)
    · cases h
def isU8 (P : Program) (e : TypeId) : Bool :=
  match P.underlying e with
  | some (.int .u8) => true
  | _ => false
theorem isU8_und {e : Nat} (h : isU8 P e = true) : P.underlying e = some (.int .u8) := by
  unfold isU8 at h
  split at h
  · assumption
  · cases h
def convD (P : Program) (s t : TypeId) (x : D) : Option D :=
  match P.underlying s, P.underlying t, x with
  | some _, some (.int k), .i _ n => some (.i k (k.wrap n))
  | some .string, some .string, .s l => some (.s l)
  | some .string, some (.slice e), .s l => if isU8 P e = true ∧ l.length ≤ 4611686018427387904 then some (.sl 1 (l.map byteD) .shut) else none
  | some (.slice e), some .string, .nil => if isU8 P e = true then some (.s []) else none
  | some (.slice e), some .string, .sl sz es _ => if isU8 P e = true ∧ sz = 1 then (toBs es).map fun ns => .s (unB ns) else none
  | _, _, _ => none
theorem conv_sound {E : Env} {w : World} (hF : Fresh E w) {s t : Nat} {x r : D} {vx : Value} (hx : Rep E w vx x) (h : convD P s t x = some r) :
    ∃ v E' w', (convert s t vx).run P w = .ok v w' ∧ Rep E' w' v r ∧ Qs E w E' w' := by
  unfold convD at h
  split at h
  · rename_i ds k k' n hs ht
    injection h with h
    subst h
    cases hx
    refine ⟨_, E, w, ?_, .i _ _, Qs.refl hF⟩
    simp [convert, run_underlying hs, run_underlying ht, Conv.intToInt]
  · rename_i l hs ht
    injection h with h
    subst h
    cases hx
    refine ⟨_, E, w, ?_, .s _, Qs.refl hF⟩
    simp [convert, run_underlying hs, run_underlying ht]
  · rename_i e l hs ht
    split at h
    case isFalse => cases h
    rename_i hc
    injection h with h
    subst h
    cases hx
    have hr := run_bytes_of_string (P := P) w s t e (bs l) hs ht (isU8_und hc.1)
    rw [bs_size] at hr
    have hge := grownCap_ge w l.length 0 e
    have hcm := grownCap_le_maxLen w l.length 0 e (by unfold maxLen; omega)
    refine ⟨_, _, _, hr, ?_, Qs.block hF (below_alloc_drew w _) (by simp) l.length⟩
    refine .sl w.heap.size 0 l.length _ 1 _ .shut (fun i j => .int .u8 ((l.getD i 0).toNat : Int)) (by simp) hge hcm trivial (fun d hd => ?_) (fun i j _ _ => rfl) (fun i j hi hj => ?_) (fun i j hi hj => ?_)
    · obtain ⟨b, _, rfl⟩ := List.mem_map.1 hd
      rfl
    · have : j = 0 := by omega
      subst this
      refine ⟨?_, ?_⟩
      · rw [cell_of_row _ w.heap.size _ _ _ _ (heap_alloc_new w.drew _)]
        simp [bytesRow, bs, Array.getElem?_append, hi]
      · show 0 + (i * 1 + 0) < upd E.pr w.heap.size l.length w.heap.size
        rw [upd_same]
        omega
    · have : j = 0 := by omega
      subst this
      have he : ((l.map byteD).getD i .u) = byteD (l.getD i 0) := by simp [List.getD, hi]
      rw [he]
      exact .i _ _
  · rename_i e hs ht
    split at h
    case isFalse => cases h
    rename_i hc
    injection h with h
    subst h
    cases hx
    exact ⟨_, E, w, run_convert_bytes_nil w s e hs (isU8_und hc) 0 0 t ht, .s [], Qs.refl hF⟩
  · rename_i e sz es o hs ht
    split at h
    case isFalse => cases h
    rename_i hc
    obtain ⟨hu, rfl⟩ := hc
    have hu := isU8_und hu
    cases hb : toBs es with
    | none => simp [hb] at h
    | some ns =>
      simp [hb] at h
      subst h
      obtain ⟨h1, h2⟩ := toBs_spec es ns hb
      cases hx with
      | sl blk off n cap _ _ _ f hn hcap hmax ho hg h1c hc hr =>
      refine ⟨.string (bs (unB ns)), E, w, ?_, .s _, Qs.refl hF⟩
      have hl := run_loadCells_list (P := P) w ⟨blk, off, none⟩ (ns.map (Value.int .u8)) (fun j v hj => by
        have hjl : j < ns.length := by
          have := (List.getElem?_eq_some_iff.1 hj).1
          simpa using this
        have h3 := (hc j 0 (by omega) (by omega)).1
        have h4 := hr j 0 (by omega) (by omega)
        have h5 := h2 j (by omega)
        rw [h5] at h4
        rw [add_eq, show off + j = off + (j * 1 + 0) by omega, h3]
        have h6 : Rep E w (f j 0) (.i .u8 (ns.getD j 0)) := h4
        generalize f j 0 = q at h6
        cases h6
        simp [List.getElem?_eq_getElem hjl] at hj
        subst hj
        simp [List.getD, hjl])
      simp only [List.length_map] at hl
      rw [h1, hn] at hl
      rw [run_convert_bytes_string w s t e _ n cap hs hu ht, run_bytesToString w _ n cap ns hl, foldl_push_bytes]
      simp [bs, unB]
  · cases h
def getI : Option D → Nat → Option Nat
  | none, d => some d
  | some (.i _ n), _ => if 0 ≤ n then some n.toNat else none
  | _, _ => none
def sliceD (P : Program) (t : TypeId) (x : D) (lo hi : Option D) : Option D :=
  match P.underlying t, x with
  | some .string, .s l => match getI lo 0, getI hi l.length with
    | some a, some b => if a ≤ b ∧ b ≤ l.length then some (.s ((l.take b).drop a)) else none
    | _, _ => none
  | some (.slice e), .sl sz es _ => match getI lo 0, getI hi es.length with
    | some a, some b => if a ≤ b ∧ b ≤ es.length ∧ tsz P e = some sz then some (.sl sz ((es.take b).drop a) .shut) else none
    | _, _ => none
  | _, _ => none
theorem bounds_run {E : Env} {w : World} (sl : Bool) (len cap : Nat) (lo hi : Option D) (vlo vhi : Option Value) (hlo : ∀ d, lo = some d → ∃ v, vlo = some v ∧ Rep E w v d) (hlo0 : lo = none → vlo = none)
    (hhi : ∀ d, hi = some d → ∃ v, vhi = some v ∧ Rep E w v d) (hhi0 : hi = none → vhi = none) (a b : Nat) (ha : getI lo 0 = some a) (hb : getI hi len = some b) (hab : a ≤ b) (hbl : b ≤ cap) :
    (Instr.sliceBounds sl len cap vlo vhi none).run P w = .ok (a, b, cap) w := by
  have bound : ∀ (x : Option D) (vx : Option Value) (n y dflt : Nat) (code : BoundsCode), (∀ d, x = some d → ∃ v, vx = some v ∧ Rep E w v d) → getI x dflt = some n → n ≤ y → ∀ d, x = some d → ∃ v, vx = some v ∧ (Instr.sliceBound v y code).run P w = .ok n w := by
    intro x vx n y dflt code h1 h2 h3 d hd
    obtain ⟨v, hv, hr⟩ := h1 d hd
    subst hd
    unfold getI at h2
    split at h2
    · rename_i hh; cases hh
    · rename_i hh
      injection hh with hh
      subst hh
      cases hr
      split at h2
      · rename_i h0
        injection h2 with h2
        subst h2
        refine ⟨_, hv, ?_⟩
        exact run_sliceBound w _ _ _ _ h0 (by omega)
      · cases h2
    · cases h2
  unfold Instr.sliceBounds
  cases hhc : hi with
  | none =>
    rw [hhi0 hhc]
    have : b = len := by rw [hhc] at hb; simpa [getI] using hb.symm
    subst this
    cases hlc : lo with
    | none =>
      rw [hlo0 hlc]
      have : a = 0 := by rw [hlc] at ha; simpa [getI] using ha.symm
      subst this
      simp
    | some d =>
      obtain ⟨v, hv, hr⟩ := bound lo vlo a b 0 .sliceB hlo ha hab d hlc
      rw [hv]
      simp [hr]
  | some d =>
    obtain ⟨v, hv, hr⟩ := bound hi vhi b cap len (if sl then .sliceAcap else .sliceAlen) hhi hb hbl d hhc
    rw [hv]
    cases hlc : lo with
    | none =>
      rw [hlo0 hlc]
      have : a = 0 := by rw [hlc] at ha; simpa [getI] using ha.symm
      subst this
      simp [hr]
    | some d' =>
      obtain ⟨v', hv', hr'⟩ := bound lo vlo a b 0 .sliceB hlo ha hab d' hlc
      rw [hv']
      simp [hr, hr']
theorem slice_sound {E : Env} {w : World} {t : Nat} {x r : D} {lo hi : Option D} {vx : Value} {vlo vhi : Option Value} (hx : Rep E w vx x) (hlo : ∀ d, lo = some d → ∃ v, vlo = some v ∧ Rep E w v d) (hlo0 : lo = none → vlo = none)
    (hhi : ∀ d, hi = some d → ∃ v, vhi = some v ∧ Rep E w v d) (hhi0 : hi = none → vhi = none) (h : sliceD P t x lo hi = some r) : ∃ v, (Instr.sliceAt t vx vlo vhi none).run P w = .ok v w ∧ Rep E w v r := by
  unfold sliceD at h
  split at h
  · rename_i l hu
    split at h
    case h_2 => cases h
    rename_i a b ha hb
    split at h
    case isFalse => cases h
    rename_i hc
    injection h with h
    subst h
    cases hx
    refine ⟨.string ((bs l).extract a b), ?_, ?_⟩
    · have hbr := bounds_run (P := P) (E := E) (w := w) false (bs l).size (bs l).size lo hi vlo vhi hlo hlo0 hhi hhi0 a b ha hb hc.1 hc.2
      simp [Instr.sliceAt, Instr.slice, run_underlying hu, hbr]
    · have : (bs l).extract a b = bs ((l.take b).drop a) := by
        apply ByteArray.ext
        rw [ByteArray.data_extract]
        apply Array.ext'
        simp [bs, List.drop_take]
      rw [this]
      exact .s _
  · rename_i e sz es o hu
    split at h
    case h_2 => cases h
    rename_i a b ha hb
    split at h
    case isFalse => cases h
    rename_i hc
    obtain ⟨hab, hbl, hs⟩ := hc
    injection h with h
    subst h
    cases hx with
    | sl blk off n cap _ _ _ f hn hcap hmax ho hg h1 hcl hr =>
    have hbr := bounds_run (P := P) (E := E) (w := w) true n cap lo hi vlo vhi hlo hlo0 hhi hhi0 a b ha (by rw [← hn]; exact hb) hab (by omega)
    refine ⟨.slice (if cap = a then some ⟨blk, off, none⟩ else some ⟨blk, off + a * sz, none⟩) (b - a) (cap - a), ?_, ?_⟩
    · simp [Instr.sliceAt, Instr.slice, run_underlying hu, hbr, run_sizeOf_tsz hs, add_eq]
    · have key : ∀ off', (a < b → off' = off + a * sz) → Rep E w (.slice (some ⟨blk, off', none⟩) (b - a) (cap - a)) (.sl sz ((es.take b).drop a) .shut) := by
        intro off' ho'
        refine .sl blk off' (b - a) (cap - a) sz _ .shut (fun i j => f (a + i) j) (by simp; omega) (by omega) (by omega) trivial (fun d hd => hg d ?_) (fun i j hi hj => h1 _ _ (by omega) hj) (fun i j hi hj => ?_) (fun i j hi hj => ?_)
        · exact List.mem_of_mem_take (List.mem_of_mem_drop hd)
        · have h3 := hcl (a + i) j (by omega) hj
          rw [ho' (by omega), show off + a * sz + (i * sz + j) = off + ((a + i) * sz + j) by rw [Nat.add_mul]; omega]
          exact h3
        · have h3 := hr (a + i) j (by omega) hj
          have : ((es.take b).drop a).getD i .u = es.getD (a + i) .u := by
            simp only [List.getD, List.getElem?_drop, List.getElem?_take]
            rw [if_pos (by omega)]
          rw [this]
          exact h3
      split
      · exact key off (fun h => by omega)
      · exact key _ (fun _ => rfl)
  · cases h
def lenD : D → Option D
  | .s l => some (.i .i64 l.length)
  | .nil => some (.i .i64 0)
  | .sl _ es _ => some (.i .i64 es.length)
  | _ => none
def lenT (P : Program) (t : TypeId) (x : D) : Bool :=
  match P.underlying t, x with
  | some .string, .s _ => true
  | some (.slice _), .nil => true
  | some (.slice _), .sl _ _ _ => true
  | _, _ => false
theorem len_sound {E : Env} {w : World} {t ty : Nat} {x r : D} {vx : Value} (hx : Rep E w vx x) (ht : lenT P t x = true) (h : lenD x = some r) : ∃ v, (Builtin.len_ #[t] ty #[vx]).run P w = .ok v w ∧ Rep E w v r := by
  unfold lenT at ht
  split at ht
  · rename_i l hu
    injection h with h
    subst h
    cases hx
    exact ⟨_, by simp [Builtin.len_, run_underlying hu]; rfl, .i _ _⟩
  · rename_i e hu
    injection h with h
    subst h
    cases hx
    exact ⟨_, by simp [Builtin.len_, run_underlying hu]; rfl, .i _ _⟩
  · rename_i e sz es o hu
    injection h with h
    subst h
    cases hx with
    | sl blk off n cap _ _ _ f hn hcap hmax ho hg h1 hcl hr =>
    rw [hn]
    exact ⟨_, by simp [Builtin.len_, run_underlying hu]; rfl, .i _ _⟩
  · cases ht
def strAtD (P : Program) (t : TypeId) (x i : D) : Option D :=
  match P.underlying t, x, i with
  | some .string, .s l, .i _ n => if 0 ≤ n ∧ n < l.length then some (.i .u8 ((l.getD n.toNat 0).toNat : Int)) else none
  | _, _, _ => none
theorem strAt_sound {E : Env} {w : World} {t : Nat} {x i r : D} {vx vi : Value} (hx : Rep E w vx x) (hi : Rep E w vi i) (h : strAtD P t x i = some r) : ∃ v, (Instr.index t vx vi).run P w = .ok v w ∧ Rep E w v r := by
  unfold strAtD at h
  split at h
  · rename_i l k n hu
    split at h
    case isFalse => cases h
    rename_i hc
    injection h with h
    subst h
    cases hx
    cases hi
    obtain ⟨j, rfl⟩ := Int.eq_ofNat_of_zero_le hc.1
    have hj : j < l.length := by omega
    have hg : (bs l)[j]? = some (l.getD j 0) := by
      rw [ByteArray.getElem?_lt' _ _ (by rw [bs_size]; exact hj)]
      simp only [List.getD, List.getElem?_eq_getElem hj, Option.getD_some]
      rfl
    refine ⟨.int .u8 ((l.getD j 0).toNat : Int), ?_, .i _ _⟩
    simp [Instr.index, asIntOf, run_underlying hu, hg]
  · cases h
def opD (P : Program) (ev : Operand → D) (bx : Nat → Nat → Option D) : Op → Option D
  | .move x => some (ev x)
  | .assign x => some (ev x)
  | .pick c a b => match ev c with
    | .b t => some (if t then ev a else ev b)
    | _ => none
  | .build t parts => buildD P t (parts.toList.map fun p => (p.1, ev p.2))
  | .buildSlice t n parts => litD P t n (parts.toList.map fun p => (p.1, ev p.2))
  | .load t x => loadD P bx t (ev x)
  | .binOp op t x y _ => binD P op t (ev x) (ev y)
  | .unOp .not _ x => match ev x with
    | .b t => some (.b (!t))
    | _ => none
  | .unOp .neg _ x => match ev x with
    | .i k n => some (.i k (k.wrap (0 - n)))
    | _ => none
  | .convert s t x => convD P s t (ev x)
  | .slice t x lo hi none => sliceD P t (ev x) (lo.map ev) (hi.map ev)
  | .fieldAddr s x f => fieldD P s (ev x) f
  | .indexAddr t x i => indexD P t (ev x) (ev i)
  | .index t x i => strAtD P t (ev x) (ev i)
  | .extract x i => match ev x with
    | .tu vs => vs[i]?
    | _ => none
  | .call { callee := .builtin .len, args, argTypes } => match args.toList, argTypes.toList with
    | [x], [t] => if lenT P t (ev x) = true then lenD (ev x) else none
    | _, _ => none
  | .call { callee := .builtin .max, args, .. } => match args.toList with
    | [x, y] => match ev x, ev y with
      | .i k a, .i _ b => some (.i k (if b > a then b else a))
      | _, _ => none
    | _ => none
  | .call { callee := .builtin .min, args, .. } => match args.toList with
    | [x, y] => match ev x, ev y with
      | .i k a, .i _ b => some (.i k (if b < a then b else a))
      | _, _ => none
    | _ => none
  | _ => none
theorem repP_map {E : Env} {w : World} {ρ : Operand → Value} {ev : Operand → D} (hev : ∀ x, Rep E w (ρ x) (ev x)) : ∀ (l : List (Nat × Operand)), RepP E w (l.map fun p => (p.1, ρ p.2)) (l.map fun p => (p.1, ev p.2))
  | [] => .nil
  | (i, x) :: l => .cons (hev x) (repP_map hev l)
theorem arr1 {α : Type} {a : Array α} {x : α} (h : a.toList = [x]) : a = #[x] := by
  obtain ⟨l⟩ := a
  simp at h
  rw [h]
theorem arr2 {α : Type} {a : Array α} {x y : α} (h : a.toList = [x, y]) : a = #[x, y] := by
  obtain ⟨l⟩ := a
  simp at h
  rw [h]
theorem op_sound {B : Nat} {bx : Nat → Nat → Option D} {E : Env} {w : World} (hF : Fresh E w) (hB : BOk B bx E w) {ρ : Operand → Value} {ev : Operand → D} (hev : ∀ x, Rep E w (ρ x) (ev x)) (o : Oper) {d : D} (h : opD P ev bx o.op = some d) :
    ∃ v E' w', (execOp ρ o).run P w = .ok (.value v) w' ∧ Rep E' w' v d ∧ Qs E w E' w' := by
  have same : ∀ {e : Sem Value}, (∃ v, e.run P w = .ok v w ∧ Rep E w v d) → ∃ v E' w', (do pure (Next.value (← e)) : Sem Next).run P w = .ok (.value v) w' ∧ Rep E' w' v d ∧ Qs E w E' w' := by
    rintro e ⟨v, h1, h2⟩
    exact ⟨v, E, w, by simp [h1], h2, Qs.refl hF⟩
  have other : ∀ {e : Sem Value}, (∃ v E' w', e.run P w = .ok v w' ∧ Rep E' w' v d ∧ Qs E w E' w') → ∃ v E' w', (do pure (Next.value (← e)) : Sem Next).run P w = .ok (.value v) w' ∧ Rep E' w' v d ∧ Qs E w E' w' := by
    rintro e ⟨v, E', w', h1, h2, h3⟩
    exact ⟨v, E', w', by simp [h1], h2, h3⟩
  obtain ⟨dst, op, type, pos, after, guard⟩ := o
  simp only at h
  unfold opD at h
  split at h
  · injection h with h
    subst h
    exact ⟨_, E, w, rfl, hev _, Qs.refl hF⟩
  · injection h with h
    subst h
    exact ⟨_, E, w, rfl, hev _, Qs.refl hF⟩
  · rename_i c a b
    split at h
    · rename_i t ht
      injection h with h
      subst h
      have hc := hev c
      rw [ht] at hc
      generalize hq : ρ c = q at hc
      cases hc
      refine ⟨if t then ρ a else ρ b, E, w, ?_, ?_, Qs.refl hF⟩
      · simp [execOp, hq, asBool]
      · cases t
        · exact hev b
        · exact hev a
    · cases h
  · rename_i t parts
    exact same (build_sound (by rw [Array.toList_map]; exact repP_map hev _) h)
  · rename_i t n parts
    exact other (lit_sound hF (by rw [Array.toList_map]; exact repP_map hev _) h)
  · rename_i t x
    exact same (load_sound hB (hev x) h)
  · rename_i op t x y yt
    exact same (bin_sound x y (hev x) (hev y) h)
  · rename_i t x
    split at h
    · rename_i b hx
      injection h with h
      subst h
      have hc := hev x
      rw [hx] at hc
      refine same ?_
      generalize ρ x = q at hc
      cases hc
      exact ⟨_, rfl, .b _⟩
    · cases h
  · rename_i t x
    split at h
    · rename_i k n hx
      injection h with h
      subst h
      have hc := hev x
      rw [hx] at hc
      refine same ?_
      generalize ρ x = q at hc
      cases hc
      exact ⟨_, rfl, .i _ _⟩
    · cases h
  · rename_i s t x
    exact other (conv_sound hF (hev x) h)
  · rename_i t x lo hi
    refine same (slice_sound (hev x) (fun d hd => ?_) (fun hn => ?_) (fun d hd => ?_) (fun hn => ?_) h)
    · cases lo with
      | none => cases hd
      | some a => injection hd with hd; subst hd; exact ⟨_, rfl, hev a⟩
    · cases lo with
      | none => rfl
      | some a => cases hn
    · cases hi with
      | none => cases hd
      | some a => injection hd with hd; subst hd; exact ⟨_, rfl, hev a⟩
    · cases hi with
      | none => rfl
      | some a => cases hn
  · rename_i s x f
    exact same (field_sound (hev x) h)
  · rename_i t x i
    exact same (index_sound (hev x) (hev i) h)
  · rename_i t x i
    exact same (strAt_sound (hev x) (hev i) h)
  · rename_i x i
    split at h
    · rename_i ds hx
      have hc := hev x
      rw [hx] at hc
      refine same ?_
      generalize ρ x = q at hc
      cases hc with
      | tu vs _ hl hr =>
        have hlt : i < ds.length := (List.getElem?_eq_some_iff.1 h).1
        have h2 := hr i (by omega)
        refine ⟨vs[i]'(by omega), ?_, ?_⟩
        · simp [Instr.extract, List.getElem?_eq_getElem (show i < vs.length by omega)]
        · simpa [List.getD, h, List.getElem?_eq_getElem (show i < vs.length by omega)] using h2
    · cases h
  · rename_i args argTypes
    split at h
    · rename_i x t ha ht
      split at h
      · rename_i hT
        have h1 := arr1 ha
        have h2 := arr1 ht
        subst h1
        subst h2
        obtain ⟨v, hr, hv⟩ := len_sound (P := P) (t := t) (ty := type) (hev x) hT h
        refine ⟨v, E, w, ?_, hv, Qs.refl hF⟩
        simp [execOp, resolve, invoke, builtin, hr]
      · cases h
    · cases h
  · rename_i args argTypes
    split at h
    · rename_i x y ha
      have h1 := arr2 ha
      subst h1
      split at h
      · rename_i k a k' b hx hy
        injection h with h
        subst h
        have hcx := hev x
        have hcy := hev y
        rw [hx] at hcx
        rw [hy] at hcy
        generalize hqx : ρ x = qx at hcx
        generalize hqy : ρ y = qy at hcy
        cases hcx
        cases hcy
        refine ⟨_, E, w, ?_, .i _ _, Qs.refl hF⟩
        simp [execOp, resolve, invoke, builtin, hqx, hqy, Builtin.max_, Builtin.max2]
      · cases h
    · cases h
  · rename_i args argTypes
    split at h
    · rename_i x y ha
      have h1 := arr2 ha
      subst h1
      split at h
      · rename_i k a k' b hx hy
        injection h with h
        subst h
        have hcx := hev x
        have hcy := hev y
        rw [hx] at hcx
        rw [hy] at hcy
        generalize hqx : ρ x = qx at hcx
        generalize hqy : ρ y = qy at hcy
        cases hcx
        cases hcy
        refine ⟨_, E, w, ?_, .i _ _, Qs.refl hF⟩
        simp [execOp, resolve, invoke, builtin, hqx, hqy, Builtin.min_, Builtin.min2]
      · cases h
    · cases h
  · cases h
end
end Go.Sh
namespace Go.Sh
open Go.RowKit
set_option linter.unusedVariables false
structure St where
  fr : Nat → D
  bx : Nat → Nat → Option D
  tp : Nat → Option (Nat × Nat)
  c : Nat
def St.ev (σ : St) : Operand → D
  | .tmp t => σ.fr t
  | .const v => ofV v
  | _ => .u
def updo (fr : Nat → D) (dst : Option Tmp) (d : D) : Nat → D :=
  match dst with
  | some t => upd fr t d
  | none => fr
def St.put (σ : St) (dst : Option Tmp) (d : D) : St := { σ with fr := updo σ.fr dst d }
def upd2 {α : Type} (f : Nat → Nat → α) (k g : Nat) (x : α) : Nat → Nat → α := fun i j => if i = k ∧ j = g then x else f i j
theorem upd2_same {α : Type} (f : Nat → Nat → α) (k g : Nat) (x : α) : upd2 f k g x k g = x := by simp [upd2]
/-- The open rows. -/
structure EOk (B : Nat) (M : Nat → Prop) (tp : Nat → Option (Nat × Nat)) (E : Env) (w : World) : Prop where
  to : ∀ k g n, tp k = some (g, n) → ∃ T, E.top k = some T ∧ T.g = g ∧ T.n = n
  at_ : ∀ k T, E.top k = some T → T.g < E.c ∧ 0 < T.sz ∧ T.n ≤ T.cap ∧ T.cap ≤ maxLen ∧ E.pr T.blk = T.n * T.sz ∧ (B ≤ T.blk ∨ M T.blk) ∧ ∃ cur e, w.heap[T.blk]? = some (.cells cur e (0, 0)) ∧ cur.size = T.cap * T.sz
  inj : ∀ k k' T T', E.top k = some T → E.top k' = some T' → T.blk = T'.blk → k = k'
/-- Of old blocks only those of M may have turned. -/
structure Kp (M : Nat → Prop) (w w' : World) : Prop where
  os : w'.os = w.os
  tape : w'.tape = w.tape
  output : w'.output = w.output
  size : w.heap.size ≤ w'.heap.size
  block : ∀ b, b < w.heap.size → ¬ M b → w'.heap[b]? = w.heap[b]?
theorem Kp.refl (M : Nat → Prop) (w : World) : Kp M w w := ⟨rfl, rfl, rfl, Nat.le_refl _, fun _ _ _ => rfl⟩
theorem Kp.below {M : Nat → Prop} {w0 w w' : World} (h : Kp M w0 w) (hb : Below w.heap.size w w') : Kp M w0 w' :=
  ⟨hb.os.trans h.os, hb.tape.trans h.tape, hb.output.trans h.output, Nat.le_trans h.size hb.size, fun b hlt hm => (hb.block b (Nat.lt_of_lt_of_le hlt h.size)).trans (h.block b hlt hm)⟩
theorem Kp.setRow {M : Nat → Prop} {w0 w : World} (h : Kp M w0 w) {g : Nat} (hg : w0.heap.size ≤ g ∨ M g) (cs : Array Value) : Kp M w0 (w.setRow g cs) :=
  ⟨h.os, h.tape, h.output, by simp; exact h.size, fun b hlt hm => (setRow_other w g b cs (by
    rintro rfl
    rcases hg with hg | hg
    · omega
    · exact hm hg)).trans (h.block b hlt hm)⟩
/-- All but the frame. -/
structure Base (W : World) (E0 : Env) (w0 : World) (M : Nat → Prop) (σ : St) (E : Env) (w : World) : Prop where
  box : BOk w0.heap.size σ.bx E w
  top : EOk w0.heap.size M σ.tp E w
  fresh : Fresh E w
  kp : Kp M w0 w
  ext : Ext E0 w0 E w
  c : E.c = σ.c
  old : ∀ b, b < w0.heap.size → ¬ M b → E.pr b = E0.pr b
  glob : Below W.heap.size W w
  wle : W.heap.size ≤ w0.heap.size
  mle : ∀ b, M b → W.heap.size ≤ b
structure Sim (W : World) (E0 : Env) (w0 : World) (M : Nat → Prop) (N : Nat) (σ : St) (E : Env) (a : Act) (w : World) : Prop where
  base : Base W E0 w0 M σ E w
  size : a.tmps.size = N
  defers : a.defers = []
  fr : ∀ t, Rep E w (a.tmps.getD t undef) (σ.fr t)
section
variable {P : Program} {W : World} {E0 : Env} {w0 : World} {M : Nat → Prop} {N : Nat} {σ : St} {E : Env} {a : Act} {w : World}
theorem Sim.ev (h : Sim W E0 w0 M N σ E a w) (x : Operand) : Rep E w (a.eval x) (σ.ev x) := by
  cases x with
  | tmp t => exact h.fr t
  | const v => exact ofV_rep E w v
  | global g => exact .u _
  | func f => exact .u _
/-- The frame behind a step. -/
theorem fr_put {E' : Env} {w' : World} (h : Sim W E0 w0 M N σ E a w) (hx : Ext E w E' w') {dst : Option Tmp} (hd : ∀ t, dst = some t → t < N) {v : Value} {d : D} (hv : Rep E' w' v d) :
    (a.put dst v).tmps.size = N ∧ (a.put dst v).defers = [] ∧ ∀ t, Rep E' w' ((a.put dst v).tmps.getD t undef) ((σ.put dst d).fr t) := by
  cases dst with
  | none => exact ⟨h.size, h.defers, fun t => (h.fr t).ext hx⟩
  | some k =>
    refine ⟨by simp [Act.put, h.size], h.defers, fun t => ?_⟩
    have hk : k < a.tmps.size := by rw [h.size]; exact hd k rfl
    by_cases ht : t = k
    · subst ht
      have e1 : (a.put (some t) v).tmps.getD t undef = v := by simp [Act.put, Array.getD, hk]
      have e2 : (σ.put (some t) d).fr t = d := upd_same _ _ _
      rw [e1, e2]
      exact hv
    · have e1 : (a.put (some k) v).tmps.getD t undef = a.tmps.getD t undef := by
        simp [Act.put, Array.getElem?_setIfInBounds_ne (Ne.symm ht)]
      have e2 : (σ.put (some k) d).fr t = σ.fr t := upd_other _ _ ht
      rw [e1, e2]
      exact (h.fr t).ext hx
theorem BOk.q {B : Nat} {bx : Nat → Nat → Option D} {E' : Env} {w' : World} (h : BOk B bx E w) (q : Qs E w E' w') : BOk B bx E' w' := by
  refine ⟨fun k g blk hb => ?_, fun k g k' g' blk h1 h2 => h.inj k g k' g' blk (by rw [← q.box]; exact h1) (by rw [← q.box]; exact h2), fun k g blk k' T h1 h2 => h.sep k g blk k' T (by rw [← q.box]; exact h1) (by rw [← q.top]; exact h2)⟩
  rw [q.box] at hb
  obtain ⟨h1, h2, h3, d, cur, e, h4, h5, h6, h7⟩ := h.at_ k g blk hb
  have hlt : blk < w.heap.size := (Array.getElem?_eq_some_iff.1 h5).1
  exact ⟨by rw [q.c]; exact h1, h2, by rw [q.old blk hlt]; exact h3, d, cur, e, h4, by rw [q.below.block blk hlt]; exact h5, h6, fun j hj => ⟨(h7 j hj).1, (h7 j hj).2.ext q.ext⟩⟩
theorem EOk.q {B : Nat} {tp : Nat → Option (Nat × Nat)} {E' : Env} {w' : World} (h : EOk B M tp E w) (q : Qs E w E' w') : EOk B M tp E' w' := by
  refine ⟨fun k g n ht => by rw [q.top]; exact h.to k g n ht, fun k T hT => ?_, fun k k' T T' h1 h2 => h.inj k k' T T' (by rw [← q.top]; exact h1) (by rw [← q.top]; exact h2)⟩
  rw [q.top] at hT
  obtain ⟨h1, h2, h3, h4, h5, h6, cur, e, h7, h8⟩ := h.at_ k T hT
  have hlt : T.blk < w.heap.size := (Array.getElem?_eq_some_iff.1 h7).1
  exact ⟨by rw [q.c]; exact h1, h2, h3, h4, by rw [q.old _ hlt]; exact h5, h6, cur, e, by rw [q.below.block _ hlt]; exact h7, h8⟩
theorem glob_below {W w w' : World} (h : Below W.heap.size W w) (hb : Below w.heap.size w w') : Below W.heap.size W w' := h.trans (hb.mono h.size)
theorem Base.q {E' : Env} {w' : World} (h : Base W E0 w0 M σ E w) (q : Qs E w E' w') : Base W E0 w0 M σ E' w' :=
  ⟨h.box.q q, h.top.q q, q.new, h.kp.below q.below, h.ext.trans q.ext, by rw [q.c]; exact h.c, fun b hlt hm => by rw [q.old b (Nat.lt_of_lt_of_le hlt h.kp.size)]; exact h.old b hlt hm, glob_below h.glob q.below, h.wle, h.mle⟩
theorem Base.put (h : Base W E0 w0 M σ E w) (dst : Option Tmp) (d : D) : Base W E0 w0 M (σ.put dst d) E w := by
  cases dst <;> exact ⟨h.box, h.top, h.fresh, h.kp, h.ext, h.c, h.old, h.glob, h.wle, h.mle⟩
theorem Sim.q {E' : Env} {w' : World} (h : Sim W E0 w0 M N σ E a w) (q : Qs E w E' w') {dst : Option Tmp} (hd : ∀ t, dst = some t → t < N) {v : Value} {d : D} (hv : Rep E' w' v d) : Sim W E0 w0 M N (σ.put dst d) E' (a.put dst v) w' := by
  obtain ⟨h1, h2, h3⟩ := fr_put h q.ext hd hv
  exact ⟨(h.base.q q).put dst d, h1, h2, h3⟩
/-- A new variable. -/
def St.newBox (σ : St) (k : Nat) (d : D) : St := ⟨upd σ.fr k (.p k σ.c 0), upd2 σ.bx k σ.c (some d), σ.tp, σ.c + 1⟩
theorem Sim.newBox (h : Sim W E0 w0 M N σ E a w) {k : Nat} (hk : k < N) {v : Value} {d : D} (hv : Rep E w v d) (hs : d.solid = true) (t : TypeId) :
    ∃ E', Sim W E0 w0 M N (σ.newBox k d) E' (a.put (some k) (.pointer (some ⟨w.heap.size, 0, none⟩))) (w.alloc (.cells v.cells t)) := by
  have hb := h.base
  have hnone : E.box k σ.c = none := by
    cases he : E.box k σ.c with
    | none => rfl
    | some blk => have := (hb.box.at_ _ _ _ he).1; rw [hb.c] at this; exact absurd this (Nat.lt_irrefl _)
  have hcells := hv.cellsOf hs
  let E' : Env := { E with box := upd2 E.box k σ.c (some w.heap.size), c := E.c + 1 }
  have hba := below_alloc w (.cells v.cells t)
  have hbox_old : ∀ k' g' blk, E.box k' g' = some blk → E'.box k' g' = some blk := by
    intro k' g' blk hbx
    show upd2 E.box k σ.c (some w.heap.size) k' g' = some blk
    unfold upd2
    split
    · rename_i hh
      obtain ⟨rfl, rfl⟩ := hh
      rw [hnone] at hbx
      cases hbx
    · exact hbx
  have hbox_inv : ∀ k' g' blk, E'.box k' g' = some blk → (k' = k ∧ g' = σ.c ∧ blk = w.heap.size) ∨ ((¬ (k' = k ∧ g' = σ.c)) ∧ E.box k' g' = some blk) := by
    intro k' g' blk hbx
    have hbx' : upd2 E.box k σ.c (some w.heap.size) k' g' = some blk := hbx
    unfold upd2 at hbx'
    split at hbx'
    · rename_i hh
      injection hbx' with hbx'
      exact .inl ⟨hh.1, hh.2, hbx'.symm⟩
    · rename_i hh
      exact .inr ⟨hh, hbx'⟩
  have hx : Ext E w E' (w.alloc (.cells v.cells t)) :=
    ⟨fun b => Nat.le_refl _, fun b o ho => by
      rcases Nat.lt_or_ge b w.heap.size with hlt | hge
      · exact hba.cell (p := ⟨b, o, none⟩) hlt
      · rw [hb.fresh b hge] at ho; exact absurd ho (Nat.not_lt_zero _), hbox_old, fun _ _ hT _ => hT, Nat.le_succ _⟩
  have hsz : w.heap.size ≤ (w.alloc (.cells v.cells t)).heap.size := hba.size
  refine ⟨E', ?_⟩
  have hfr := fr_put h hx (dst := some k) (fun t ht => by injection ht with ht; subst ht; exact hk) (v := .pointer (some ⟨w.heap.size, 0, none⟩)) (d := .p k σ.c 0) (.p k σ.c 0 w.heap.size (upd2_same _ _ _ _))
  refine ⟨⟨⟨fun k' g' blk hbx => ?_, fun k1 g1 k2 g2 blk h1 h2 => ?_, fun k' g' blk k2 T h1 h2 => ?_⟩, ⟨hb.top.to, fun k' T hT => ?_, hb.top.inj⟩, fun b hge => ?_, hb.kp.below hba, hb.ext.trans hx, by show E.c + 1 = σ.c + 1; rw [hb.c], hb.old, glob_below hb.glob hba, hb.wle, hb.mle⟩, hfr.1, hfr.2.1, hfr.2.2⟩
  · rcases hbox_inv k' g' blk hbx with ⟨rfl, rfl, rfl⟩ | ⟨hne, hold⟩
    · refine ⟨by show σ.c < E.c + 1; rw [hb.c]; exact Nat.lt_succ_self _, hb.kp.size, hb.fresh _ (Nat.le_refl _), d, v.cells, t, upd2_same _ _ _ _, heap_alloc_new w _, hcells.1, fun j hj => ⟨(hcells.2 j hj).1, (hcells.2 j hj).2.ext hx⟩⟩
    · obtain ⟨h1, h2, h3, d', cur, e, h4, h5, h6, h7⟩ := hb.box.at_ k' g' blk hold
      have hlt : blk < w.heap.size := (Array.getElem?_eq_some_iff.1 h5).1
      refine ⟨Nat.lt_succ_of_lt h1, h2, h3, d', cur, e, ?_, by rw [hba.block blk hlt]; exact h5, h6, fun j hj => ⟨(h7 j hj).1, (h7 j hj).2.ext hx⟩⟩
      show upd2 σ.bx k σ.c (some d) k' g' = some d'
      unfold upd2
      rw [if_neg hne]
      exact h4
  · rcases hbox_inv k1 g1 blk h1 with ⟨rfl, rfl, rfl⟩ | ⟨hne, hold⟩ <;> rcases hbox_inv k2 g2 _ h2 with ⟨rfl, rfl, hq⟩ | ⟨hne', hold'⟩
    · exact ⟨rfl, rfl⟩
    · obtain ⟨_, _, _, d', cur, e, _, h5, _⟩ := hb.box.at_ k2 g2 _ hold'
      exact absurd (Array.getElem?_eq_some_iff.1 h5).1 (Nat.lt_irrefl _)
    · subst hq
      obtain ⟨_, _, _, d', cur, e, _, h5, _⟩ := hb.box.at_ k1 g1 _ hold
      exact absurd (Array.getElem?_eq_some_iff.1 h5).1 (Nat.lt_irrefl _)
    · exact hb.box.inj k1 g1 k2 g2 blk hold hold'
  · rcases hbox_inv k' g' blk h1 with ⟨rfl, rfl, rfl⟩ | ⟨hne, hold⟩
    · obtain ⟨_, _, _, _, _, _, cur, e, h7, _⟩ := hb.top.at_ k2 T h2
      exact Nat.ne_of_lt (Array.getElem?_eq_some_iff.1 h7).1
    · exact hb.box.sep k' g' blk k2 T hold h2
  · obtain ⟨h1, h2, h3, h4, h5, h6, cur, e, h7, h8⟩ := hb.top.at_ k' T hT
    exact ⟨Nat.lt_succ_of_lt h1, h2, h3, h4, h5, h6, cur, e, by rw [hba.block _ (Array.getElem?_eq_some_iff.1 h7).1]; exact h7, h8⟩
  · exact hb.fresh b (Nat.le_trans hsz hge)
/-- A store. -/
def setc (c : D) (o : Nat) (d : D) : D := if o = 0 ∧ c.cells.length = d.cells.length then d else .ag (splice c.cells o d.cells)
theorem setc_cells (c : D) (o : Nat) (d : D) (hs : d.solid = true) (h : o + d.cells.length ≤ c.cells.length) : (setc c o d).cells = splice c.cells o d.cells := by
  unfold setc
  split
  · rename_i hh
    obtain ⟨rfl, hl⟩ := hh
    simp [splice, hl]
  · rfl
def St.setBox (σ : St) (k g : Nat) (d : D) : St := { σ with bx := upd2 σ.bx k g (some d) }
theorem Sim.store (h : Sim W E0 w0 M N σ E a w) {k g o : Nat} {c d : D} {va v : Value} (ha : Rep E w va (.p k g o)) (hv : Rep E w v d) (hs : d.solid = true) (hc : σ.bx k g = some c) (hl : o + d.cells.length ≤ c.cells.length) {t : TypeId} (ht : tsz P t = some d.cells.length) :
    ∃ w', (Instr.storeAt t va v).run P w = .ok () w' ∧ Sim W E0 w0 M N (σ.setBox k g (setc c o d)) E a w' := by
  have hb := h.base
  cases ha with
  | p _ _ _ blk hblk =>
  obtain ⟨h1, h2, h3, c', cur, e, h4, h5, h6, h7⟩ := hb.box.at_ k g blk hblk
  rw [hc] at h4
  injection h4 with h4
  subst h4
  have hcells := hv.cellsOf hs
  have hvl : v.cells.toList.length = d.cells.length := by simpa using hcells.1
  have h1c : ∀ x ∈ v.cells.toList, x.oneCell' = true := by
    intro x hx
    obtain ⟨j, hj, rfl⟩ := List.getElem_of_mem hx
    have := (hcells.2 j (by omega)).1
    have hj' : j < v.cells.size := by simpa using hj
    simpa [List.getD, hj'] using this
  have hst := run_storeCells_at P blk o e v.cells.toList 0 cur w h5 (by rw [hvl, h6]; omega) h1c
  simp only [Nat.add_zero] at hst
  obtain ⟨nc, hnc⟩ : ∃ nc, nc = (cur.toList.take o ++ v.cells.toList ++ cur.toList.drop (o + v.cells.toList.length)).toArray := ⟨_, rfl⟩
  rw [← hnc] at hst
  have hsp : nc.toList = splice cur.toList o v.cells.toList := by rw [hnc]; simp [splice]
  refine ⟨w.setRow blk nc, ?_, ?_⟩
  · simp only [Instr.storeAt, Instr.sureAddr, Sem.run_bind, Sem.run_pure, Result.andThen_ok, storeVar, run_sizeOf_tsz ht, Sem.run_ite]
    rw [if_neg (by rw [hcells.1]; simp)]
    exact hst
  · have hcell : ∀ b x, x < E.pr b → (w.setRow blk nc).cell? ⟨b, x, none⟩ = w.cell? ⟨b, x, none⟩ := fun b x hx => cell_setRow_other w blk nc ⟨b, x, none⟩ (by
      rintro rfl
      rw [h3] at hx
      exact Nat.not_lt_zero _ hx)
    have hx : Ext E w E (w.setRow blk nc) := ⟨fun b => Nat.le_refl _, hcell, fun _ _ _ h => h, fun _ _ h _ => h, Nat.le_refl _⟩
    have hcs := setc_cells c o d hs hl
    refine ⟨⟨⟨fun k' g' blk' hb' => ?_, hb.box.inj, hb.box.sep⟩, ⟨hb.top.to, fun k' T hT => ?_, hb.top.inj⟩, fun b hge => hb.fresh b (by simpa using hge), hb.kp.setRow (.inl h2) nc, hb.ext.trans hx, hb.c, hb.old, ?_, hb.wle, hb.mle⟩, h.size, h.defers, fun t => (h.fr t).ext hx⟩
    · by_cases hsame : k' = k ∧ g' = g
      · obtain ⟨rfl, rfl⟩ := hsame
        have he : blk' = blk := by
          have h : E.box k' g' = some blk' := hb'
          rw [hblk] at h
          injection h with h
          exact h.symm
        subst he
        refine ⟨h1, h2, h3, setc c o d, nc, e, upd2_same _ _ _ _, setRow_heap w blk' cur nc e (0, 0) h5, ?_, fun j hj => ?_⟩
        · rw [hcs, splice_len _ _ _ hl, ← h6, ← Array.length_toList, hsp, splice_len _ _ _ (by simp; omega), Array.length_toList]
        · rw [hcs, splice_len _ _ _ hl] at hj
          rw [hcs, hsp, splice_getD _ _ _ _ (by simp; omega), splice_getD _ _ _ _ hl, hvl]
          by_cases hin : o ≤ j ∧ j < o + d.cells.length
          · rw [if_pos hin, if_pos hin]
            exact ⟨(hcells.2 _ (by omega)).1, (hcells.2 _ (by omega)).2.ext hx⟩
          · rw [if_neg hin, if_neg hin]
            exact ⟨(h7 j hj).1, (h7 j hj).2.ext hx⟩
      · obtain ⟨q1, q2, q3, d', cur', e', q4, q5, q6, q7⟩ := hb.box.at_ k' g' blk' hb'
        have hne : blk' ≠ blk := fun hh => by
          subst hh
          exact hsame (hb.box.inj k' g' k g blk' hb' hblk)
        refine ⟨q1, q2, q3, d', cur', e', ?_, by rw [setRow_other w blk blk' nc hne]; exact q5, q6, fun j hj => ⟨(q7 j hj).1, (q7 j hj).2.ext hx⟩⟩
        show upd2 σ.bx k g (some (setc c o d)) k' g' = some d'
        unfold upd2
        rw [if_neg hsame]
        exact q4
    · obtain ⟨q1, q2, q3, q4, q5, q6, cur', e', q7, q8⟩ := hb.top.at_ k' T hT
      refine ⟨q1, q2, q3, q4, q5, q6, cur', e', ?_, q8⟩
      rw [setRow_other w blk T.blk nc (hb.box.sep k g blk k' T hblk hT)]
      exact q7
    · have hk := hb.glob
      have hle : W.heap.size ≤ blk := Nat.le_trans hb.wle h2
      exact ⟨hk.os, hk.tape, hk.output, by simp; exact hk.size, fun b hlt => (setRow_other w blk b nc (by omega)).trans (hk.block b hlt)⟩
end
end Go.Sh
