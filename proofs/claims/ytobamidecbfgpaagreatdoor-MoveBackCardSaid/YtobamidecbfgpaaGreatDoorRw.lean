/- The rows of a state, over the shadow. No condition. -/
import Derived.Test.YtobamidecbfgpaaGreatDoorSp
import Derived.Test.YtobamidecbfgpaaGreatDoorSc
namespace Go.Proofs.YtobamidecbfgpaaGreatDoor
open Go Go.Sh Go.RowKit
set_option linter.unusedVariables false
set_option linter.unusedSimpArgs false
set_option maxRecDepth 10000
variable {W : World}
theorem lit2_53 (x y z t : D) : litD T 53 2 [(0, .ag [x, y]), (1, .ag [z, t])] = some (.sl 2 [.ag [x, y], .ag [z, t]] .full) := lit53 2 _ ⟨by decide, rfl, by simp [D.solid, D.cells]⟩
theorem ap53m {tp : Nat → Option (Nat × Nat)} {c : Nat} {s x : D} {es es2 : List D} {o : Own} (hs : s = DO 2 es o) (hm : mayApp 53 tp s = true) (hx : elems 2 x = some es2) (h2 : es2 ≠ []) (hb : es.length + es2.length ≤ 100000000) :
    appD T 53 tp c s x = some (DO 2 (es ++ es2) (.op 53 c), upd tp 53 (some (c, (es ++ es2).length)), c + 1) := by
  subst hs
  unfold appD
  simp only [und53, tsz74, tby74, zero74, elems_DO, hx]
  rw [if_neg (by simpa using h2), if_pos ⟨by decide, rfl, rfl, by omega, by omega, hm⟩, DO_ne (by simp [h2]), List.length_append]
def backN (m : Mix) : Nat := if m.back then 1 else 0
def frontR (m : Mix) (s : Sta) : List Row := [⟨keyB 0 109 0 0, numsB [s.clock, s.next, s.last]⟩, ⟨keyB 0 118 0 0, numsB [m.src, m.to, m.cursor, backN m]⟩]
def rowsR (m : Mix) (s : Sta) (l : List Sub) : List Row := frontR m s ++ l.flatMap fun x => encV (routeV m x.id) x
def rowsP (m : Mix) (s : Sta) : List Row := sortB Row.key (rowsR m s s.subs)
theorem encV_ne (v : Nat) (x : Sub) : encV v x ≠ [] := by
  unfold encV kinds12 kinds13 kinds14
  split
  · simp
  · split <;> simp
theorem flat_len {α β : Type} (f : α → List β) (n : Nat) : ∀ l : List α, (∀ a ∈ l, (f a).length ≤ n) → (l.flatMap f).length ≤ n * l.length
  | [], _ => by simp
  | a :: l, h => by
    have h1 := h a List.mem_cons_self
    have h2 := flat_len f n l (fun b hb => h b (List.mem_cons_of_mem _ hb))
    simp only [List.flatMap_cons, List.length_append, List.length_cons, Nat.mul_add, Nat.mul_one]
    omega
theorem encV_len (v : Nat) (x : Sub) (hx : SubOK x) : (encV v x).length ≤ 100 := by
  have h1 := nz_len x.note K.note; have h2 := nz_len x.want K.want; have h3 := gz_len x.acks; have h4 := mz_len x.queue; have h5 := hx.queue; have h6 := hx.acks
  unfold encV kinds12 kinds13 kinds14
  split
  · simp only [List.length_append, List.length_map, List.length_cons, List.length_nil]; omega
  · split <;> simp only [List.length_append, List.length_map, List.length_cons, List.length_nil] <;> omega
theorem rowsR_len (m : Mix) (s : Sta) (l : List Sub) (hl : l.length ≤ 20) (hs : ∀ x ∈ l, SubOK x) : (rowsR m s l).length ≤ 2002 := by
  have := flat_len (fun x => encV (routeV m x.id) x) 100 l (fun x hx => encV_len _ x (hs x hx))
  simp only [rowsR, frontR, List.length_append, List.length_cons, List.length_nil]
  omega
theorem er_dRow2 : er ∘ dRow = dRow := er_row
theorem rows19 (L : Laid W) (m : Mix) (hm : MixOK m) (s : Sta) (hs : StaG s) : Fc T W 19 [dMix m, dSta s] (dRows (rowsP m s)) := by
  obtain ⟨⟨a1, a2⟩, ⟨b1', b2'⟩, cu, way⟩ := hm
  obtain ⟨ck, ⟨nx1, nx2⟩, la, sl, sg, sr, sle⟩ := hs
  have hok : ∀ x ∈ s.subs, SubOK x := fun x hx => (sg x hx).ok
  have hbl : backN m ≤ 1 := by unfold backN; split <;> omega
  refine Fc_intro (thr := thr) hmix Tryz.func19 rfl (by kernel_rfl) (by simp [Tryz.ntmps19]) ?_
  refine CW_reg fun K_ hK => ?_
  simp [wk, vk, ek, ok, lk, er_dSubs2, buildD, fillD, lit2_53, thr, dMix, dSta]
  refine hK _ ?_
  refine CW_reg fun K_ hK => ?_
  simp [wk, vk, ek, ok, lk, er_dSubs2, buildD, fillD, lit2_53, thr, dMix, dSta]
  refine hK _ ?_
  refine CW_join (fun τ => τ.fr 2 = .p 2 0 0 ∧ τ.bx 2 0 = some (dMix m) ∧ τ.fr 3 = .p 3 1 0 ∧ τ.bx 3 1 = some (dSta s) ∧ τ.fr 5 = .i .i64 (backN m)) (fun Kj2 hKn2 hKx2 => ?_) ?_
  · refine CW_reg fun K_ hK => ?_
    simp [wk, vk, ek, ok, lk, er_dSubs2, buildD, fillD, lit2_53, thr, dMix, dSta]
    refine hK _ ?_
    refine CW_cond rfl (fun hct10 => ?_) (fun hct10 => ?_)
    · have hbk : m.back = true := by simpa [wk, vk, ek] using hct10
      refine CW_reg1 fun K_ hK => ?_
      simp [wk, vk, ek, ok, lk, er_dSubs2, buildD, fillD, lit2_53, thr, dMix, dSta]
      refine hK _ ?_
      refine hKn2 _ ?_
      exact ⟨by simp [upd], by simp [upd2, dMix], by simp [upd], by simp [upd2, dSta], by simp [upd, backN, hbk]⟩
    · have hbk : m.back = false := by simpa [wk, vk, ek] using hct10
      refine CW_sk ?_
      refine hKn2 _ ?_
      exact ⟨by simp [upd], by simp [upd2, dMix], by simp [upd], by simp [upd2, dSta], by simp [upd, backN, hbk]⟩
  · rintro ⟨fr, bx, tp, c⟩ ⟨f2, b2, f3, b3, f5⟩
    simp only at f2 b2 f3 b3 f5
    rw [dMix] at b2
    rw [dSta] at b3
    refine CW_reg fun K_ hK => ?_
    simp [wk, vk, ek, ok, lk, er_dSubs2, buildD, fillD, lit2_53, thr, f2, b2, f3, b3, f5]
    refine CallW_use (key_ok L 0 109 0 0 (by decide) (by decide) (by decide) (by decide)) ?_
    simp [wk, vk, ek, ok, lk, er_dSubs2, buildD, fillD, lit2_53, thr, f2, b2, f3, b3, f5]
    refine CallT_use (nnum34 (by omega)) ?_
    simp [wk, vk, ek, ok, lk, er_dSubs2, buildD, fillD, lit2_53, thr, f2, b2, f3, b3, f5]
    refine CallT_use (onum34 (fun _ => by simp [upd]) (by omega) (by have h0 := numB_len8 (n := s.clock) (by omega); simp; omega)) ?_
    simp [wk, vk, ek, ok, lk, er_dSubs2, buildD, fillD, lit2_53, thr, f2, b2, f3, b3, f5]
    refine CallT_use (onum34 (fun _ => by simp [upd]) (by omega) (by have h0 := numB_len8 (n := s.clock) (by omega); have h1 := numB_len8 (n := s.next) (by omega); simp; omega)) ?_
    simp [wk, vk, ek, ok, lk, er_dSubs2, buildD, fillD, lit2_53, thr, f2, b2, f3, b3, f5]
    refine CallW_use (key_ok L 0 118 0 0 (by decide) (by decide) (by decide) (by decide)) ?_
    simp [wk, vk, ek, ok, lk, er_dSubs2, buildD, fillD, lit2_53, thr, f2, b2, f3, b3, f5]
    refine CallT_use (nnum34 (by omega)) ?_
    simp [wk, vk, ek, ok, lk, er_dSubs2, buildD, fillD, lit2_53, thr, f2, b2, f3, b3, f5]
    refine CallT_use (onum34 (fun _ => by simp [upd]) (by omega) (by have h0 := numB_len8 (n := m.src) (by omega); simp; omega)) ?_
    simp [wk, vk, ek, ok, lk, er_dSubs2, buildD, fillD, lit2_53, thr, f2, b2, f3, b3, f5]
    refine CallT_use (onum34 (fun _ => by simp [upd]) (by omega) (by have h0 := numB_len8 (n := m.src) (by omega); have h1 := numB_len8 (n := m.to) (by omega); simp; omega)) ?_
    simp [wk, vk, ek, ok, lk, er_dSubs2, buildD, fillD, lit2_53, thr, f2, b2, f3, b3, f5]
    refine CallT_use (onum34 (fun _ => by simp [upd]) (by omega) (by have h0 := numB_len8 (n := m.src) (by omega); have h1 := numB_len8 (n := m.to) (by omega); have h2 := numB_len8 (n := m.cursor) (by omega); simp; omega)) ?_
    simp [wk, vk, ek, ok, lk, er_dSubs2, buildD, fillD, lit2_53, thr, f2, b2, f3, b3, f5]
    refine hK _ ?_
    refine CW_seq1 ?_
    refine CW_reg fun K_ hK => ?_
    simp [wk, vk, ek, ok, lk, er_dSubs2, buildD, fillD, lit2_53, thr, f2, b2, f3, b3, f5]
    refine hK _ ?_
    refine CW_for (fun j τ => ∃ (i : Nat) (es : List D) (o : Own), j = s.subs.length - i ∧ i ≤ s.subs.length ∧ es.map er = (rowsR m s (s.subs.take i)).map dRow ∧ τ.fr 2 = .p 2 0 0 ∧ τ.bx 2 0 = some (dMix m) ∧ τ.fr 3 = .p 3 1 0 ∧ τ.bx 3 1 = some (dSta s) ∧ τ.fr 6 = DO 2 es o ∧ mayApp 53 τ.tp (DO 2 es o) = true ∧ τ.fr 7 = .i .i64 i) (s.subs.length) ?_ ?_
    · refine ⟨0, [_, _], .full, rfl, by omega, ?_, by simp [upd, f2], by simp [upd2, b2, dMix], by simp [upd, f3], by simp [upd2, b3, dSta], by simp [upd]; rfl, rfl, by simp [upd]⟩
      simp [rowsR, frontR, dRow, numsB, ek, ok]
    · rintro j ⟨fr, bx, tp, c⟩ ⟨i, es, o, rfl, hi, hes, f2, b2, f3, b3, f6, hmay, f7⟩ K0 hN0 hX0 hR0 hJ0
      simp only at f2 b2 f3 b3 f6 hmay f7
      rw [dMix] at b2
      rw [dSta] at b3
      have hel : es.length ≤ 2002 := by have h := congrArg List.length hes; rw [List.length_map, List.length_map] at h; have := rowsR_len m s (s.subs.take i) (by rw [List.length_take]; omega) (fun x hx => hok x (List.mem_of_mem_take hx)); omega
      refine CW_seq1 ?_
      refine CW_reg fun K_ hK => ?_
      simp [wk, vk, ek, ok, lk, er_dSubs2, buildD, fillD, lit2_53, thr, f2, b2, f3, b3, f6, f7]
      refine hK _ ?_
      refine CW_cond rfl (fun hct40 => ?_) (fun hct40 => ?_)
      · have hil : i < s.subs.length := by simpa [wk, vk, ek, ok, f3, b3, f7] using hct40
        have hok1 := hok _ (List.getElem_mem hil)
        refine CW_sk ?_
        refine CW_seq1 ?_
        refine CW_blk fun K1 hn1 hx1 hr1 hj1 => ?_
        refine CW_reg fun K_ hK => ?_
        have hix := ix_dS s.subs .i64 i hil
        simp [wk, vk, ek, ok, lk, er_dSubs2, buildD, fillD, lit2_53, thr, f2, b2, f3, b3, f6, f7, hil, hix, isAg_sub, solid_sub, clen_sub, dSub]
        refine CallW_use (route29 m s.subs[i].id) ?_
        simp [wk, vk, ek, ok, lk, er_dSubs2, buildD, fillD, lit2_53, thr, f2, b2, f3, b3, f6, f7, hil, hix, isAg_sub, solid_sub, clen_sub, dSub]
        refine CallW_use (enc35 L (routeV m s.subs[i].id) s.subs[i] hok1) ?_
        simp [wk, vk, ek, ok, lk, er_dSubs2, buildD, fillD, lit2_53, thr, f2, b2, f3, b3, f6, f7, hil, hix, isAg_sub, solid_sub, clen_sub, dSub]
        refine hK _ ?_
        refine CW_reg1 fun K_ hK => ?_
        simp [wk, vk, ek, ok, lk, er_dSubs2, buildD, fillD, lit2_53, thr, f2, b2, f3, b3, f6, f7, hil]
        refine AppW_use (ap53m (es2 := (encV (routeV m s.subs[i].id) s.subs[i]).map dRow) rfl hmay (elems_DO _ _ _) (by simpa using encV_ne _ _) (by have := encV_len (routeV m s.subs[i].id) s.subs[i] hok1; rw [List.length_map]; omega)) ?_
        simp [wk, vk, ek, ok, lk, er_dSubs2, buildD, fillD, lit2_53, thr, f2, b2, f3, b3, f6, f7, hil]
        refine hK _ ?_
        refine hn1 _ ?_
        refine CW_reg1 fun K_ hK => ?_
        simp [wk, vk, ek, ok, lk, er_dSubs2, buildD, fillD, lit2_53, thr, f2, b2, f3, b3, f6, f7, hil]
        refine hK _ ?_
        refine hN0 (s.subs.length - (i + 1)) _ (by omega) ⟨i + 1, es ++ (encV (routeV m s.subs[i].id) s.subs[i]).map dRow, .op 53 c, rfl, by omega, ?_, by simp [upd, f2], by simp [upd2, b2, dMix], by simp [upd, f3], by simp [upd2, b3, dSta], by simp [upd], may_DO (fun _ => by simp [upd]), ?_⟩
        · rw [List.map_append, hes, List.take_succ_eq_append_getElem hil]
          simp only [rowsR, List.flatMap_append, List.flatMap_cons, List.flatMap_nil, List.append_nil, List.map_append, List.append_assoc, List.map_map, er_row]
        · simp [upd, f7]; rw [w64 (by omega) (by omega)]
      · have hil : ¬ i < s.subs.length := by simpa [wk, vk, ek, ok, f3, b3, f7] using hct40
        obtain rfl : i = s.subs.length := by omega
        rw [List.take_length] at hes
        refine CW_ex ?_
        refine hX0 _ ?_
        refine CW_reg fun K_ hK => ?_
        simp [wk, vk, ek, ok, lk, er_dSubs2, buildD, fillD, lit2_53, thr, f2, b2, f3, b3, f6, f7]
        refine CallW_use (by have h36 := sorted36 (W := W) (rowsR m s s.subs) (by have := rowsR_len m s s.subs sl hok; omega); rw [dRows, ← hes] at h36; exact h36) ?_
        simp [wk, vk, ek, ok, lk, er_dSubs2, buildD, fillD, lit2_53, thr, f2, b2, f3, b3, f6, f7]
        refine hK _ ?_
        refine CW_rt ?_
        refine ends_ret ?_
        simp [Tryz.results19, resD, resL, resD1, vk, wk, ok, lk, er_dSubs2, buildD, fillD, lit2_53, ek, rowsP, f2, b2, f3, b3, f6, f7]
end Go.Proofs.YtobamidecbfgpaaGreatDoor
