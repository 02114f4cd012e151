/- What a row tells, version two, over the shadow. No condition. -/
import Derived.Test.YtobamidecbfgpaaGreatDoorRi
/- What a row tells, version one, over the shadow. No condition. -/
namespace Go.Proofs.YtobamidecbfgpaaGreatDoor
open Go Go.Sh Go.RowKit
set_option linter.unusedVariables false
set_option linter.unusedSimpArgs false
set_option maxRecDepth 10000
variable {W : World}
set_option linter.defProp false
inductive K
  | ack (a : Nat)
  | gaps
  | body (m : Msg)
  | note
  | msg (m : Msg)
  | sub
  | want
  | more (m : Msg)
def rowK (v id t seq : Nat) (b : Str) : Row := ⟨keyB v t id seq, b⟩
def moreB (m : Msg) : Str := numB m.prio ++ numB (deathN m)
def row12 (y : Sub) : K → Row
  | .ack a => rowK 1 y.id 97 a []
  | .note => rowK 1 y.id 110 0 (textB y.note)
  | .msg m => rowK 1 y.id 113 m.seq (textB m.body ++ (textB m.attr ++ (numB m.tries ++ (numB m.til ++ numB (isDead m)))))
  | .sub => rowK 1 y.id 115 0 (textB y.name ++ (textB y.topic ++ (numB y.lease ++ (numB y.most ++ numB y.floor))))
  | .want => rowK 1 y.id 119 0 (textB y.want)
  | .more m => rowK 1 y.id 120 m.seq (moreB m)
  | _ => ⟨[], []⟩
def put12 (y x : Sub) : K → Sub
  | .ack a => { x with id := y.id, acks := x.acks ++ [a] }
  | .note => { x with id := y.id, note := y.note }
  | .msg m => { x with id := y.id, queue := x.queue ++ [{ m with prio := 0, why := [] }] }
  | .sub => { x with id := y.id, name := y.name, topic := y.topic, lease := y.lease, most := y.most, floor := y.floor }
  | .want => { x with id := y.id, want := y.want }
  | .more m => { x with id := y.id, queue := x.queue.map (moreF m.seq m) }
  | _ => x
def lI : Option Nat → List Nat → D
  | some g, l => oI g l
  | none, l => dInts l
def lM : Option Nat → List Msg → D
  | some g, l => oM g l
  | none, l => dMsgs l
theorem lI_some (g : Nat) (l : List Nat) : lI (some g) l = oI g l := rfl
theorem lI_none (l : List Nat) : lI none l = dInts l := rfl
theorem lM_some (g : Nat) (l : List Msg) : lM (some g) l = oM g l := rfl
theorem lM_none (l : List Msg) : lM none l = dMsgs l := rfl
theorem er_lI (o : Option Nat) (l : List Nat) : er (lI o l) = dInts l := by cases o <;> simp [lI, er_oI, er_dInts]
theorem er_lM (o : Option Nat) (l : List Msg) : er (lM o l) = dMsgs l := by cases o <;> simp [lM, er_oM, er_dMsgs]
theorem erp_lI (o : Option Nat) (l : List Nat) : erp (lI o l) = lI o l := by cases o <;> simp [lI, erp_oI, erp_dInts]
theorem erp_lM (o : Option Nat) (l : List Msg) : erp (lM o l) = lM o l := by cases o <;> simp [lM, erp_oM, erp_dMsgs]
theorem solid_lI (o : Option Nat) (l : List Nat) : (lI o l).solid = true := by cases o <;> simp [lI, solid_oI, solid_dI]
theorem solid_lM (o : Option Nat) (l : List Msg) : (lM o l).solid = true := by cases o <;> simp [lM, solid_oM, solid_dM]
theorem isAg_lI (o : Option Nat) (l : List Nat) : (lI o l).isAg = false := by cases o <;> simp [lI, isAg_oI, isAg_dI]
theorem isAg_lM (o : Option Nat) (l : List Msg) : (lM o l).isAg = false := by cases o <;> simp [lM, isAg_oM, isAg_dM]
theorem cells_lI (o : Option Nat) (l : List Nat) : (lI o l).cells = [lI o l] := by cases o <;> simp [lI, cells_oI, cells_dI]
theorem cells_lM (o : Option Nat) (l : List Msg) : (lM o l).cells = [lM o l] := by cases o <;> simp [lM, cells_oM, cells_dM]
theorem len_lM (o : Option Nat) (l : List Msg) : lenOk T 42 (lM o l) = some (.i .i64 l.length) := by cases o <;> simp [lM, len_oM, len_dM]
theorem len_lI (o : Option Nat) (l : List Nat) : lenOk T 41 (lI o l) = some (.i .i64 l.length) := by cases o <;> simp [lI, len_oI, len_dI]
def lk := And.intro @er_lI <| And.intro @er_lM <| And.intro @erp_lI <| And.intro @erp_lM <| And.intro @solid_lI <| And.intro @solid_lM <| And.intro @isAg_lI <| And.intro @isAg_lM <| And.intro @cells_lI <| And.intro @cells_lM <| And.intro @len_lM <| And.intro @len_lI <| And.intro @lI_some @lM_some
def oSub (oa oq : Option Nat) (x : Sub) : D := .ag [.i .i64 x.id, .s x.name, .s x.topic, .s x.want, .i .i64 x.lease, .i .i64 x.most, .i .i64 x.floor, lI oa x.acks, lM oq x.queue, .s x.note]
theorem add67a (L : Laid W) (x y : Sub) (hy : SubOK y) (a ga : Nat) (oq : Option Nat) (ha : a ≤ 9999) (hl : x.acks.length ≤ 1000) (tp : Nat → Option (Nat × Nat)) (c : Nat) (hta : x.acks ≠ [] → tp 41 = some (ga, x.acks.length)) : Ft T W 67 [oSub (some ga) oq x, dRow (row12 y (.ack a))] tp c (oSub (some (c + 4)) oq (put12 y x (.ack a))) (upd tp 41 (some (c + 4, x.acks.length + 1))) (c + 5) := by
  refine Ft_intro (thr := thr) hmix Tryz.func67 rfl (by kernel_rfl) (by simp [Tryz.ntmps67]) (by omega) ?_
  refine CW_reg fun K_ hK => ?_
  simp [wk, vk, ek, ok, lk, buildD, fillD, thr, oSub, dRow, row12, rowK, put12, dR]
  refine hK _ ?_
  refine CW_reg fun K_ hK => ?_
  simp [wk, vk, ek, ok, lk, buildD, fillD, thr, oSub, dRow, row12, rowK, put12, dR]
  refine CallW_use (parts_ok L 1 97 y.id a (by decide) (by decide) (by have := hy.id; omega) (by omega)) ?_
  simp [wk, vk, ek, ok, lk, buildD, fillD, thr, oSub, dRow, row12, rowK, put12, dR]
  refine hK _ ?_
  refine CW_reg fun K_ hK => ?_
  simp [wk, vk, ek, ok, lk, buildD, fillD, thr, oSub, dRow, row12, rowK, put12, dR]
  refine hK _ ?_
  refine CW_reg fun K_ hK => ?_
  simp [wk, vk, ek, ok, lk, buildD, fillD, thr, oSub, dRow, row12, rowK, put12, dR]
  refine hK _ ?_
  refine CW_seq1 ?_
  refine CW_reg fun K_ hK => ?_
  simp [wk, vk, ek, ok, lk, buildD, fillD, thr, oSub, dRow, row12, rowK, put12, dR]
  refine hK _ ?_
  refine CW_blk fun K0 hn0 hx0 hr0 hj0 => ?_
  refine CW_reg fun K_ hK => ?_
  simp [wk, vk, ek, ok, lk, buildD, fillD, thr, oSub, dRow, row12, rowK, put12, dR]
  refine hK _ ?_
  refine CW_yes rfl ?_
  refine CW_reg1 fun K_ hK => ?_
  simp [wk, vk, ek, ok, lk, buildD, fillD, thr, oSub, dRow, row12, rowK, put12, dR]
  refine AppW_use (app_I x.acks a ga hta (by omega)) ?_
  simp [wk, vk, ek, ok, lk, buildD, fillD, thr, oSub, dRow, row12, rowK, put12, dR]
  refine hK _ ?_
  refine hn0 _ ?_
  refine CW_reg fun K_ hK => ?_
  simp [wk, vk, ek, ok, lk, buildD, fillD, thr, oSub, dRow, row12, rowK, put12, dR]
  refine hK _ ?_
  refine CW_rt ?_
  refine ends_ret ?_
  simp [Tryz.results67, resD, resL, resD1, vk, wk, ok, lk, buildD, fillD, ek, oSub, put12, lI_none, lM_none, oSub, dRow, row12, rowK, put12, dR]
theorem add67n (L : Laid W) (x y : Sub) (hy : SubOK y) (oa oq : Option Nat) (tp : Nat → Option (Nat × Nat)) (c : Nat) : Ft T W 67 [oSub oa oq x, dRow (row12 y (.note))] tp c (oSub oa oq (put12 y x (.note))) (tp) (c + 5) := by
  rw [show row12 y K.note = rowK 1 y.id 110 0 (textB y.note) from rfl]
  obtain ⟨B, hB⟩ : ∃ B, B = textB y.note := ⟨_, rfl⟩
  rw [← hB]
  have hq0 := textB_len y.note (by have := hy.note; omega)
  have hBl : B.length ≤ 100000000 := by rw [hB]; (try simp); omega
  obtain ⟨k1, hk1⟩ : ∃ k, k = 0 + (textB y.note).length := ⟨_, rfl⟩
  refine Ft_intro (thr := thr) hmix Tryz.func67 rfl (by kernel_rfl) (by simp [Tryz.ntmps67]) (by omega) ?_
  refine CW_reg fun K_ hK => ?_
  simp [wk, vk, ek, ok, lk, buildD, fillD, thr, oSub, dRow, row12, rowK, put12, dR]
  refine hK _ ?_
  refine CW_reg fun K_ hK => ?_
  simp [wk, vk, ek, ok, lk, buildD, fillD, thr, oSub, dRow, row12, rowK, put12, dR]
  refine CallW_use (parts_ok L 1 110 y.id 0 (by decide) (by decide) (by have := hy.id; omega) (by decide)) ?_
  simp [wk, vk, ek, ok, lk, buildD, fillD, thr, oSub, dRow, row12, rowK, put12, dR]
  refine hK _ ?_
  refine CW_reg fun K_ hK => ?_
  simp [wk, vk, ek, ok, lk, buildD, fillD, thr, oSub, dRow, row12, rowK, put12, dR]
  refine hK _ ?_
  refine CW_reg fun K_ hK => ?_
  simp [wk, vk, ek, ok, lk, buildD, fillD, thr, oSub, dRow, row12, rowK, put12, dR]
  refine hK _ ?_
  refine CW_seq1 ?_
  refine CW_reg fun K_ hK => ?_
  simp [wk, vk, ek, ok, lk, buildD, fillD, thr, oSub, dRow, row12, rowK, put12, dR]
  refine hK _ ?_
  refine CW_blk fun K0 hn0 hx0 hr0 hj0 => ?_
  refine CW_reg fun K_ hK => ?_
  simp [wk, vk, ek, ok, lk, buildD, fillD, thr, oSub, dRow, row12, rowK, put12, dR]
  refine hK _ ?_
  refine CW_no rfl ?_
  refine CW_reg fun K_ hK => ?_
  simp [wk, vk, ek, ok, lk, buildD, fillD, thr, oSub, dRow, row12, rowK, put12, dR]
  refine hK _ ?_
  refine CW_yes rfl ?_
  refine CW_reg fun K_ hK => ?_
  simp [wk, vk, ek, ok, lk, buildD, fillD, thr, oSub, dRow, row12, rowK, put12, dR]
  refine CallW_use (by have h := rText102 (W := W) ([]) ([]) (y.note) 30 (by have := hy.note; omega) (by omega) B (by simp [hB]) hBl 0 rfl; rw [← hk1] at h; exact h) ?_
  simp [wk, vk, ek, ok, lk, buildD, fillD, thr, oSub, dRow, row12, rowK, put12, dR]
  refine hK _ ?_
  refine CW_reg1 fun K_ hK => ?_
  simp [wk, vk, ek, ok, lk, buildD, fillD, thr, oSub, dRow, row12, rowK, put12, dR]
  refine hK _ ?_
  refine hn0 _ ?_
  refine CW_reg fun K_ hK => ?_
  simp [wk, vk, ek, ok, lk, buildD, fillD, thr, oSub, dRow, row12, rowK, put12, dR]
  refine hK _ ?_
  refine CW_rt ?_
  refine ends_ret ?_
  simp [Tryz.results67, resD, resL, resD1, vk, wk, ok, lk, buildD, fillD, ek, oSub, put12, lI_none, lM_none, oSub, dRow, row12, rowK, put12, dR]
theorem add67q (L : Laid W) (x y : Sub) (hy : SubOK y) (m : Msg) (hm : MsgOK m) (gq : Nat) (oa : Option Nat) (hl : x.queue.length ≤ 1000) (tp : Nat → Option (Nat × Nat)) (c : Nat) (htq : x.queue ≠ [] → tp 42 = some (gq, x.queue.length)) : Ft T W 67 [oSub oa (some gq) x, dRow (row12 y (.msg m))] tp c (oSub oa (some (c + 4)) (put12 y x (.msg m))) (upd tp 42 (some (c + 4, x.queue.length + 1))) (c + 5) := by
  refine Ft_intro (thr := thr) hmix Tryz.func67 rfl (by kernel_rfl) (by simp [Tryz.ntmps67]) (by omega) ?_
  refine CW_reg fun K_ hK => ?_
  simp [wk, vk, ek, ok, lk, buildD, fillD, thr, oSub, dRow, row12, rowK, put12, dR]
  refine hK _ ?_
  refine CW_reg fun K_ hK => ?_
  simp [wk, vk, ek, ok, lk, buildD, fillD, thr, oSub, dRow, row12, rowK, put12, dR]
  refine CallW_use (parts_ok L 1 113 y.id m.seq (by decide) (by decide) (by have := hy.id; omega) (by have := hm.seq; omega)) ?_
  simp [wk, vk, ek, ok, lk, buildD, fillD, thr, oSub, dRow, row12, rowK, put12, dR]
  refine hK _ ?_
  refine CW_reg fun K_ hK => ?_
  simp [wk, vk, ek, ok, lk, buildD, fillD, thr, oSub, dRow, row12, rowK, put12, dR]
  refine hK _ ?_
  refine CW_reg fun K_ hK => ?_
  simp [wk, vk, ek, ok, lk, buildD, fillD, thr, oSub, dRow, row12, rowK, put12, dR]
  refine hK _ ?_
  refine CW_seq1 ?_
  refine CW_reg fun K_ hK => ?_
  simp [wk, vk, ek, ok, lk, buildD, fillD, thr, oSub, dRow, row12, rowK, put12, dR]
  refine hK _ ?_
  refine CW_blk fun K0 hn0 hx0 hr0 hj0 => ?_
  refine CW_reg fun K_ hK => ?_
  simp [wk, vk, ek, ok, lk, buildD, fillD, thr, oSub, dRow, row12, rowK, put12, dR]
  refine hK _ ?_
  refine CW_no rfl ?_
  refine CW_reg fun K_ hK => ?_
  simp [wk, vk, ek, ok, lk, buildD, fillD, thr, oSub, dRow, row12, rowK, put12, dR]
  refine hK _ ?_
  refine CW_no rfl ?_
  refine CW_reg fun K_ hK => ?_
  simp [wk, vk, ek, ok, lk, buildD, fillD, thr, oSub, dRow, row12, rowK, put12, dR]
  refine hK _ ?_
  refine CW_yes rfl ?_
  refine CW_reg1 fun K_ hK => ?_
  simp [wk, vk, ek, ok, lk, buildD, fillD, thr, oSub, dRow, row12, rowK, put12, dR]
  refine CallW_use (msg103 m hm) ?_
  simp [wk, vk, ek, ok, lk, buildD, fillD, thr, oSub, dRow, row12, rowK, put12, dR]
  refine AppW_use (app_M x.queue { m with prio := 0, why := [] } gq htq (by omega)) ?_
  simp [wk, vk, ek, ok, lk, buildD, fillD, thr, oSub, dRow, row12, rowK, put12, dR]
  refine hK _ ?_
  refine hn0 _ ?_
  refine CW_reg fun K_ hK => ?_
  simp [wk, vk, ek, ok, lk, buildD, fillD, thr, oSub, dRow, row12, rowK, put12, dR]
  refine hK _ ?_
  refine CW_rt ?_
  refine ends_ret ?_
  simp [Tryz.results67, resD, resL, resD1, vk, wk, ok, lk, buildD, fillD, ek, oSub, put12, lI_none, lM_none, oSub, dRow, row12, rowK, put12, dR]
theorem add67s (L : Laid W) (x y : Sub) (hy : SubOK y) (oa oq : Option Nat) (tp : Nat → Option (Nat × Nat)) (c : Nat) : Ft T W 67 [oSub oa oq x, dRow (row12 y (.sub))] tp c (oSub none none (put12 y x (.sub))) (tp) (c + 4) := by
  refine Ft_intro (thr := thr) hmix Tryz.func67 rfl (by kernel_rfl) (by simp [Tryz.ntmps67]) (by omega) ?_
  refine CW_reg fun K_ hK => ?_
  simp [wk, vk, ek, ok, lk, buildD, fillD, thr, oSub, dRow, row12, rowK, put12, dR]
  refine hK _ ?_
  refine CW_reg fun K_ hK => ?_
  simp [wk, vk, ek, ok, lk, buildD, fillD, thr, oSub, dRow, row12, rowK, put12, dR]
  refine CallW_use (parts_ok L 1 115 y.id 0 (by decide) (by decide) (by have := hy.id; omega) (by decide)) ?_
  simp [wk, vk, ek, ok, lk, buildD, fillD, thr, oSub, dRow, row12, rowK, put12, dR]
  refine hK _ ?_
  refine CW_reg fun K_ hK => ?_
  simp [wk, vk, ek, ok, lk, buildD, fillD, thr, oSub, dRow, row12, rowK, put12, dR]
  refine hK _ ?_
  refine CW_reg fun K_ hK => ?_
  simp [wk, vk, ek, ok, lk, buildD, fillD, thr, oSub, dRow, row12, rowK, put12, dR]
  refine hK _ ?_
  refine CW_seq1 ?_
  refine CW_reg fun K_ hK => ?_
  simp [wk, vk, ek, ok, lk, buildD, fillD, thr, oSub, dRow, row12, rowK, put12, dR]
  refine hK _ ?_
  refine CW_blk fun K0 hn0 hx0 hr0 hj0 => ?_
  refine CW_reg fun K_ hK => ?_
  simp [wk, vk, ek, ok, lk, buildD, fillD, thr, oSub, dRow, row12, rowK, put12, dR]
  refine hK _ ?_
  refine CW_no rfl ?_
  refine CW_reg fun K_ hK => ?_
  simp [wk, vk, ek, ok, lk, buildD, fillD, thr, oSub, dRow, row12, rowK, put12, dR]
  refine hK _ ?_
  refine CW_no rfl ?_
  refine CW_reg fun K_ hK => ?_
  simp [wk, vk, ek, ok, lk, buildD, fillD, thr, oSub, dRow, row12, rowK, put12, dR]
  refine hK _ ?_
  refine CW_no rfl ?_
  refine CW_reg fun K_ hK => ?_
  simp [wk, vk, ek, ok, lk, buildD, fillD, thr, oSub, dRow, row12, rowK, put12, dR]
  refine hK _ ?_
  refine CW_yes rfl ?_
  refine CW_reg1 fun K_ hK => ?_
  simp [wk, vk, ek, ok, lk, buildD, fillD, thr, oSub, dRow, row12, rowK, put12, dR, dSub]
  refine CallW_use (sub104 { x with id := y.id } y hy) ?_
  simp [wk, vk, ek, ok, lk, buildD, fillD, thr, oSub, dRow, row12, rowK, put12, dR, dSub]
  refine hK _ ?_
  refine hn0 _ ?_
  refine CW_reg fun K_ hK => ?_
  simp [wk, vk, ek, ok, lk, buildD, fillD, thr, oSub, dRow, row12, rowK, put12, dR]
  refine hK _ ?_
  refine CW_rt ?_
  refine ends_ret ?_
  simp [Tryz.results67, resD, resL, resD1, vk, wk, ok, lk, buildD, fillD, ek, oSub, put12, lI_none, lM_none, oSub, dRow, row12, rowK, put12, dR]
theorem add67w (L : Laid W) (x y : Sub) (hy : SubOK y) (oa oq : Option Nat) (tp : Nat → Option (Nat × Nat)) (c : Nat) : Ft T W 67 [oSub oa oq x, dRow (row12 y (.want))] tp c (oSub oa oq (put12 y x (.want))) (tp) (c + 5) := by
  rw [show row12 y K.want = rowK 1 y.id 119 0 (textB y.want) from rfl]
  obtain ⟨B, hB⟩ : ∃ B, B = textB y.want := ⟨_, rfl⟩
  rw [← hB]
  have hq0 := textB_len y.want (by have := hy.want; omega)
  have hBl : B.length ≤ 100000000 := by rw [hB]; (try simp); omega
  obtain ⟨k1, hk1⟩ : ∃ k, k = 0 + (textB y.want).length := ⟨_, rfl⟩
  refine Ft_intro (thr := thr) hmix Tryz.func67 rfl (by kernel_rfl) (by simp [Tryz.ntmps67]) (by omega) ?_
  refine CW_reg fun K_ hK => ?_
  simp [wk, vk, ek, ok, lk, buildD, fillD, thr, oSub, dRow, row12, rowK, put12, dR]
  refine hK _ ?_
  refine CW_reg fun K_ hK => ?_
  simp [wk, vk, ek, ok, lk, buildD, fillD, thr, oSub, dRow, row12, rowK, put12, dR]
  refine CallW_use (parts_ok L 1 119 y.id 0 (by decide) (by decide) (by have := hy.id; omega) (by decide)) ?_
  simp [wk, vk, ek, ok, lk, buildD, fillD, thr, oSub, dRow, row12, rowK, put12, dR]
  refine hK _ ?_
  refine CW_reg fun K_ hK => ?_
  simp [wk, vk, ek, ok, lk, buildD, fillD, thr, oSub, dRow, row12, rowK, put12, dR]
  refine hK _ ?_
  refine CW_reg fun K_ hK => ?_
  simp [wk, vk, ek, ok, lk, buildD, fillD, thr, oSub, dRow, row12, rowK, put12, dR]
  refine hK _ ?_
  refine CW_seq1 ?_
  refine CW_reg fun K_ hK => ?_
  simp [wk, vk, ek, ok, lk, buildD, fillD, thr, oSub, dRow, row12, rowK, put12, dR]
  refine hK _ ?_
  refine CW_blk fun K0 hn0 hx0 hr0 hj0 => ?_
  refine CW_reg fun K_ hK => ?_
  simp [wk, vk, ek, ok, lk, buildD, fillD, thr, oSub, dRow, row12, rowK, put12, dR]
  refine hK _ ?_
  refine CW_no rfl ?_
  refine CW_reg fun K_ hK => ?_
  simp [wk, vk, ek, ok, lk, buildD, fillD, thr, oSub, dRow, row12, rowK, put12, dR]
  refine hK _ ?_
  refine CW_no rfl ?_
  refine CW_reg fun K_ hK => ?_
  simp [wk, vk, ek, ok, lk, buildD, fillD, thr, oSub, dRow, row12, rowK, put12, dR]
  refine hK _ ?_
  refine CW_no rfl ?_
  refine CW_reg fun K_ hK => ?_
  simp [wk, vk, ek, ok, lk, buildD, fillD, thr, oSub, dRow, row12, rowK, put12, dR]
  refine hK _ ?_
  refine CW_no rfl ?_
  refine CW_reg fun K_ hK => ?_
  simp [wk, vk, ek, ok, lk, buildD, fillD, thr, oSub, dRow, row12, rowK, put12, dR]
  refine hK _ ?_
  refine CW_yes rfl ?_
  refine CW_reg fun K_ hK => ?_
  simp [wk, vk, ek, ok, lk, buildD, fillD, thr, oSub, dRow, row12, rowK, put12, dR]
  refine CallW_use (by have h := rText102 (W := W) ([]) ([]) (y.want) 30 (by have := hy.want; omega) (by omega) B (by simp [hB]) hBl 0 rfl; rw [← hk1] at h; exact h) ?_
  simp [wk, vk, ek, ok, lk, buildD, fillD, thr, oSub, dRow, row12, rowK, put12, dR]
  refine hK _ ?_
  refine CW_reg1 fun K_ hK => ?_
  simp [wk, vk, ek, ok, lk, buildD, fillD, thr, oSub, dRow, row12, rowK, put12, dR]
  refine hK _ ?_
  refine hn0 _ ?_
  refine CW_reg fun K_ hK => ?_
  simp [wk, vk, ek, ok, lk, buildD, fillD, thr, oSub, dRow, row12, rowK, put12, dR]
  refine hK _ ?_
  refine CW_rt ?_
  refine ends_ret ?_
  simp [Tryz.results67, resD, resL, resD1, vk, wk, ok, lk, buildD, fillD, ek, oSub, put12, lI_none, lM_none, oSub, dRow, row12, rowK, put12, dR]
theorem add67x (L : Laid W) (x y : Sub) (hy : SubOK y) (m : Msg) (hm : MsgOK m) (oa oq : Option Nat) (hl : x.queue.length ≤ 1000) (tp : Nat → Option (Nat × Nat)) (c : Nat) : Ft T W 67 [oSub oa oq x, dRow (row12 y (.more m))] tp c (oSub oa none (put12 y x (.more m))) (tp) (c + 4) := by
  refine Ft_intro (thr := thr) hmix Tryz.func67 rfl (by kernel_rfl) (by simp [Tryz.ntmps67]) (by omega) ?_
  refine CW_reg fun K_ hK => ?_
  simp [wk, vk, ek, ok, lk, buildD, fillD, thr, oSub, dRow, row12, rowK, put12, dR]
  refine hK _ ?_
  refine CW_reg fun K_ hK => ?_
  simp [wk, vk, ek, ok, lk, buildD, fillD, thr, oSub, dRow, row12, rowK, put12, dR]
  refine CallW_use (parts_ok L 1 120 y.id m.seq (by decide) (by decide) (by have := hy.id; omega) (by have := hm.seq; omega)) ?_
  simp [wk, vk, ek, ok, lk, buildD, fillD, thr, oSub, dRow, row12, rowK, put12, dR]
  refine hK _ ?_
  refine CW_reg fun K_ hK => ?_
  simp [wk, vk, ek, ok, lk, buildD, fillD, thr, oSub, dRow, row12, rowK, put12, dR]
  refine hK _ ?_
  refine CW_reg fun K_ hK => ?_
  simp [wk, vk, ek, ok, lk, buildD, fillD, thr, oSub, dRow, row12, rowK, put12, dR]
  refine hK _ ?_
  refine CW_seq1 ?_
  refine CW_reg fun K_ hK => ?_
  simp [wk, vk, ek, ok, lk, buildD, fillD, thr, oSub, dRow, row12, rowK, put12, dR]
  refine hK _ ?_
  refine CW_blk fun K0 hn0 hx0 hr0 hj0 => ?_
  refine CW_reg fun K_ hK => ?_
  simp [wk, vk, ek, ok, lk, buildD, fillD, thr, oSub, dRow, row12, rowK, put12, dR]
  refine hK _ ?_
  refine CW_no rfl ?_
  refine CW_reg fun K_ hK => ?_
  simp [wk, vk, ek, ok, lk, buildD, fillD, thr, oSub, dRow, row12, rowK, put12, dR]
  refine hK _ ?_
  refine CW_no rfl ?_
  refine CW_reg fun K_ hK => ?_
  simp [wk, vk, ek, ok, lk, buildD, fillD, thr, oSub, dRow, row12, rowK, put12, dR]
  refine hK _ ?_
  refine CW_no rfl ?_
  refine CW_reg fun K_ hK => ?_
  simp [wk, vk, ek, ok, lk, buildD, fillD, thr, oSub, dRow, row12, rowK, put12, dR]
  refine hK _ ?_
  refine CW_no rfl ?_
  refine CW_reg fun K_ hK => ?_
  simp [wk, vk, ek, ok, lk, buildD, fillD, thr, oSub, dRow, row12, rowK, put12, dR]
  refine hK _ ?_
  refine CW_no rfl ?_
  refine CW_reg fun K_ hK => ?_
  simp [wk, vk, ek, ok, lk, buildD, fillD, thr, oSub, dRow, row12, rowK, put12, dR]
  refine hK _ ?_
  refine CW_yes rfl ?_
  refine CW_reg1 fun K_ hK => ?_
  simp [wk, vk, ek, ok, lk, buildD, fillD, thr, oSub, dRow, row12, rowK, put12, dR]
  refine CallW_use (more105 x.queue hl m.seq m hm) ?_
  simp [wk, vk, ek, ok, lk, buildD, fillD, thr, oSub, dRow, row12, rowK, put12, dR]
  refine hK _ ?_
  refine hn0 _ ?_
  refine CW_reg fun K_ hK => ?_
  simp [wk, vk, ek, ok, lk, buildD, fillD, thr, oSub, dRow, row12, rowK, put12, dR]
  refine hK _ ?_
  refine CW_rt ?_
  refine ends_ret ?_
  simp [Tryz.results67, resD, resL, resD1, vk, wk, ok, lk, buildD, fillD, ek, oSub, put12, lI_none, lM_none, oSub, dRow, row12, rowK, put12, dR]
end Go.Proofs.YtobamidecbfgpaaGreatDoor
namespace Go.Proofs.YtobamidecbfgpaaGreatDoor
open Go Go.Sh Go.RowKit
set_option linter.unusedVariables false
set_option linter.unusedSimpArgs false
set_option maxRecDepth 10000
variable {W : World}
def row13 (y : Sub) : K → Row
  | .gaps => rowK 2 y.id 97 0 (numB y.acks.length ++ numsB (gapL y.floor y.acks))
  | .body m => rowK 2 y.id 98 m.seq (textB m.body)
  | .note => rowK 2 y.id 110 0 (textB y.note)
  | .msg m => rowK 2 y.id 113 m.seq (textB m.attr ++ (numB m.tries ++ (numB m.til ++ numB (isDead m))))
  | .sub => rowK 2 y.id 115 0 (textB y.name ++ (textB y.topic ++ (textB y.want ++ (numB y.lease ++ (numB y.most ++ numB y.floor)))))
  | .more m => rowK 2 y.id 120 m.seq (moreB m)
  | _ => ⟨[], []⟩
def put13 (y : Sub) (x : Sub × List Nat) : K → Sub × List Nat
  | .gaps => ({ x.1 with id := y.id }, gapL y.floor y.acks)
  | .body m => ({ x.1 with id := y.id, queue := x.1.queue ++ [{ seq := m.seq, body := m.body, attr := [], tries := 0, til := 0, dead := false, why := [], prio := 0 }] }, x.2)
  | .note => ({ x.1 with id := y.id, note := y.note }, x.2)
  | .msg m => ({ x.1 with id := y.id, queue := x.1.queue.map (msgF m.seq m) }, x.2)
  | .sub => ({ x.1 with id := y.id, name := y.name, topic := y.topic, want := y.want, lease := y.lease, most := y.most, floor := y.floor }, x.2)
  | .more m => ({ x.1 with id := y.id, queue := x.1.queue.map (moreF m.seq m) }, x.2)
  | _ => x
def dOf (x : Sub × List Nat) : D := .ag [.i .i64 x.1.id, .s x.1.name, .s x.1.topic, .s x.1.want, .i .i64 x.1.lease, .i .i64 x.1.most, .i .i64 x.1.floor, dInts x.1.acks, dMsgs x.1.queue, .s x.1.note, dInts x.2]
theorem er_dOf (x : Sub × List Nat) : er (dOf x) = dOf x := by simp [dOf, er, er_dInts, er_dMsgs]
theorem add69a (L : Laid W) (x : Sub × List Nat) (y : Sub) (hy : SubOK y)  : Fc T W 69 [dOf x, dRow (row13 y (.gaps))] (dOf (put13 y x (.gaps))) := by
  have hgl : (numB y.acks.length ++ numsB (gapL y.floor y.acks)) = (numB (gapL y.floor y.acks).length ++ numsB (gapL y.floor y.acks)) := by rw [gapL_len]
  refine Fc_intro (thr := thr) hmix Tryz.func69 rfl (by kernel_rfl) (by simp [Tryz.ntmps69]) ?_
  refine CW_reg fun K_ hK => ?_
  simp [wk, vk, ek, ok, lk, buildD, fillD, thr, dOf, dRow, row13, rowK, put13, dR]
  refine hK _ ?_
  refine CW_reg fun K_ hK => ?_
  simp [wk, vk, ek, ok, lk, buildD, fillD, thr, dOf, dRow, row13, rowK, put13, dR]
  refine CallW_use (parts_ok L 2 97 y.id 0 (by decide) (by decide) (by have := hy.id; omega) (by decide)) ?_
  simp [wk, vk, ek, ok, lk, buildD, fillD, thr, dOf, dRow, row13, rowK, put13, dR]
  refine hK _ ?_
  refine CW_reg fun K_ hK => ?_
  simp [wk, vk, ek, ok, lk, buildD, fillD, thr, dOf, dRow, row13, rowK, put13, dR]
  refine hK _ ?_
  refine CW_seq1 ?_
  refine CW_reg fun K_ hK => ?_
  simp [wk, vk, ek, ok, lk, buildD, fillD, thr, dOf, dRow, row13, rowK, put13, dR]
  refine hK _ ?_
  refine CW_blk fun K0 hn0 hx0 hr0 hj0 => ?_
  refine CW_reg fun K_ hK => ?_
  simp [wk, vk, ek, ok, lk, buildD, fillD, thr, dOf, dRow, row13, rowK, put13, dR]
  refine hK _ ?_
  refine CW_yes rfl ?_
  refine CW_reg1 fun K_ hK => ?_
  simp [wk, vk, ek, ok, lk, buildD, fillD, thr, dOf, dRow, row13, rowK, put13, dR]
  refine CallW_use (by rw [hgl]; exact gaps106 (gapL y.floor y.acks) (gapL_le y.acks y.floor hy.ackle) (by rw [gapL_len]; exact hy.acks)) ?_
  simp [wk, vk, ek, ok, lk, buildD, fillD, thr, dOf, dRow, row13, rowK, put13, dR]
  refine hK _ ?_
  refine hn0 _ ?_
  refine CW_reg fun K_ hK => ?_
  simp [wk, vk, ek, ok, lk, buildD, fillD, thr, dOf, dRow, row13, rowK, put13, dR]
  refine hK _ ?_
  refine CW_rt ?_
  refine ends_ret ?_
  simp [Tryz.results69, resD, resL, resD1, vk, wk, ok, lk, buildD, fillD, ek, dOf, put13, dOf, dRow, row13, rowK, put13, dR]
theorem add69b (L : Laid W) (x : Sub × List Nat) (y : Sub) (hy : SubOK y) (m : Msg) (hm : MsgOK m) (hl : x.1.queue.length ≤ 1000) : Fc T W 69 [dOf x, dRow (row13 y (.body m))] (dOf (put13 y x (.body m))) := by
  refine Fc_intro (thr := thr) hmix Tryz.func69 rfl (by kernel_rfl) (by simp [Tryz.ntmps69]) ?_
  refine CW_reg fun K_ hK => ?_
  simp [wk, vk, ek, ok, lk, buildD, fillD, thr, dOf, dRow, row13, rowK, put13, dR]
  refine hK _ ?_
  refine CW_reg fun K_ hK => ?_
  simp [wk, vk, ek, ok, lk, buildD, fillD, thr, dOf, dRow, row13, rowK, put13, dR]
  refine CallW_use (parts_ok L 2 98 y.id m.seq (by decide) (by decide) (by have := hy.id; omega) (by have := hm.seq; omega)) ?_
  simp [wk, vk, ek, ok, lk, buildD, fillD, thr, dOf, dRow, row13, rowK, put13, dR]
  refine hK _ ?_
  refine CW_reg fun K_ hK => ?_
  simp [wk, vk, ek, ok, lk, buildD, fillD, thr, dOf, dRow, row13, rowK, put13, dR]
  refine hK _ ?_
  refine CW_seq1 ?_
  refine CW_reg fun K_ hK => ?_
  simp [wk, vk, ek, ok, lk, buildD, fillD, thr, dOf, dRow, row13, rowK, put13, dR]
  refine hK _ ?_
  refine CW_blk fun K0 hn0 hx0 hr0 hj0 => ?_
  refine CW_reg fun K_ hK => ?_
  simp [wk, vk, ek, ok, lk, buildD, fillD, thr, dOf, dRow, row13, rowK, put13, dR]
  refine hK _ ?_
  refine CW_no rfl ?_
  refine CW_reg fun K_ hK => ?_
  simp [wk, vk, ek, ok, lk, buildD, fillD, thr, dOf, dRow, row13, rowK, put13, dR]
  refine hK _ ?_
  refine CW_yes rfl ?_
  refine CW_reg1 fun K_ hK => ?_
  simp [wk, vk, ek, ok, lk, buildD, fillD, thr, dOf, dRow, row13, rowK, put13, dR, dMsg]
  refine CallW_use (body107 x.1.queue hl m.seq m.body hm.body) ?_
  simp [wk, vk, ek, ok, lk, buildD, fillD, thr, dOf, dRow, row13, rowK, put13, dR, dMsg]
  refine hK _ ?_
  refine hn0 _ ?_
  refine CW_reg fun K_ hK => ?_
  simp [wk, vk, ek, ok, lk, buildD, fillD, thr, dOf, dRow, row13, rowK, put13, dR]
  refine hK _ ?_
  refine CW_rt ?_
  refine ends_ret ?_
  simp [Tryz.results69, resD, resL, resD1, vk, wk, ok, lk, buildD, fillD, ek, dOf, put13, dOf, dRow, row13, rowK, put13, dR]
theorem add69n (L : Laid W) (x : Sub × List Nat) (y : Sub) (hy : SubOK y)  : Fc T W 69 [dOf x, dRow (row13 y (.note))] (dOf (put13 y x (.note))) := by
  rw [show row13 y K.note = rowK 2 y.id 110 0 (textB y.note) from rfl]
  obtain ⟨B, hB⟩ : ∃ B, B = textB y.note := ⟨_, rfl⟩
  rw [← hB]
  have hq0 := textB_len y.note (by have := hy.note; omega)
  have hBl : B.length ≤ 100000000 := by rw [hB]; (try simp); omega
  obtain ⟨k1, hk1⟩ : ∃ k, k = 0 + (textB y.note).length := ⟨_, rfl⟩
  refine Fc_intro (thr := thr) hmix Tryz.func69 rfl (by kernel_rfl) (by simp [Tryz.ntmps69]) ?_
  refine CW_reg fun K_ hK => ?_
  simp [wk, vk, ek, ok, lk, buildD, fillD, thr, dOf, dRow, row13, rowK, put13, dR]
  refine hK _ ?_
  refine CW_reg fun K_ hK => ?_
  simp [wk, vk, ek, ok, lk, buildD, fillD, thr, dOf, dRow, row13, rowK, put13, dR]
  refine CallW_use (parts_ok L 2 110 y.id 0 (by decide) (by decide) (by have := hy.id; omega) (by decide)) ?_
  simp [wk, vk, ek, ok, lk, buildD, fillD, thr, dOf, dRow, row13, rowK, put13, dR]
  refine hK _ ?_
  refine CW_reg fun K_ hK => ?_
  simp [wk, vk, ek, ok, lk, buildD, fillD, thr, dOf, dRow, row13, rowK, put13, dR]
  refine hK _ ?_
  refine CW_seq1 ?_
  refine CW_reg fun K_ hK => ?_
  simp [wk, vk, ek, ok, lk, buildD, fillD, thr, dOf, dRow, row13, rowK, put13, dR]
  refine hK _ ?_
  refine CW_blk fun K0 hn0 hx0 hr0 hj0 => ?_
  refine CW_reg fun K_ hK => ?_
  simp [wk, vk, ek, ok, lk, buildD, fillD, thr, dOf, dRow, row13, rowK, put13, dR]
  refine hK _ ?_
  refine CW_no rfl ?_
  refine CW_reg fun K_ hK => ?_
  simp [wk, vk, ek, ok, lk, buildD, fillD, thr, dOf, dRow, row13, rowK, put13, dR]
  refine hK _ ?_
  refine CW_no rfl ?_
  refine CW_reg fun K_ hK => ?_
  simp [wk, vk, ek, ok, lk, buildD, fillD, thr, dOf, dRow, row13, rowK, put13, dR]
  refine hK _ ?_
  refine CW_yes rfl ?_
  refine CW_reg fun K_ hK => ?_
  simp [wk, vk, ek, ok, lk, buildD, fillD, thr, dOf, dRow, row13, rowK, put13, dR]
  refine hK _ ?_
  refine CW_reg fun K_ hK => ?_
  simp [wk, vk, ek, ok, lk, buildD, fillD, thr, dOf, dRow, row13, rowK, put13, dR]
  refine CallW_use (by have h := rText108 (W := W) ([]) ([]) (y.note) 30 (by have := hy.note; omega) (by omega) B (by simp [hB]) hBl 0 rfl; rw [← hk1] at h; exact h) ?_
  simp [wk, vk, ek, ok, lk, buildD, fillD, thr, dOf, dRow, row13, rowK, put13, dR]
  refine hK _ ?_
  refine CW_reg1 fun K_ hK => ?_
  simp [wk, vk, ek, ok, lk, buildD, fillD, thr, dOf, dRow, row13, rowK, put13, dR]
  refine hK _ ?_
  refine hn0 _ ?_
  refine CW_reg fun K_ hK => ?_
  simp [wk, vk, ek, ok, lk, buildD, fillD, thr, dOf, dRow, row13, rowK, put13, dR]
  refine hK _ ?_
  refine CW_rt ?_
  refine ends_ret ?_
  simp [Tryz.results69, resD, resL, resD1, vk, wk, ok, lk, buildD, fillD, ek, dOf, put13, dOf, dRow, row13, rowK, put13, dR]
theorem add69q (L : Laid W) (x : Sub × List Nat) (y : Sub) (hy : SubOK y) (m : Msg) (hm : MsgOK m) (hl : x.1.queue.length ≤ 1000) : Fc T W 69 [dOf x, dRow (row13 y (.msg m))] (dOf (put13 y x (.msg m))) := by
  refine Fc_intro (thr := thr) hmix Tryz.func69 rfl (by kernel_rfl) (by simp [Tryz.ntmps69]) ?_
  refine CW_reg fun K_ hK => ?_
  simp [wk, vk, ek, ok, lk, buildD, fillD, thr, dOf, dRow, row13, rowK, put13, dR]
  refine hK _ ?_
  refine CW_reg fun K_ hK => ?_
  simp [wk, vk, ek, ok, lk, buildD, fillD, thr, dOf, dRow, row13, rowK, put13, dR]
  refine CallW_use (parts_ok L 2 113 y.id m.seq (by decide) (by decide) (by have := hy.id; omega) (by have := hm.seq; omega)) ?_
  simp [wk, vk, ek, ok, lk, buildD, fillD, thr, dOf, dRow, row13, rowK, put13, dR]
  refine hK _ ?_
  refine CW_reg fun K_ hK => ?_
  simp [wk, vk, ek, ok, lk, buildD, fillD, thr, dOf, dRow, row13, rowK, put13, dR]
  refine hK _ ?_
  refine CW_seq1 ?_
  refine CW_reg fun K_ hK => ?_
  simp [wk, vk, ek, ok, lk, buildD, fillD, thr, dOf, dRow, row13, rowK, put13, dR]
  refine hK _ ?_
  refine CW_blk fun K0 hn0 hx0 hr0 hj0 => ?_
  refine CW_reg fun K_ hK => ?_
  simp [wk, vk, ek, ok, lk, buildD, fillD, thr, dOf, dRow, row13, rowK, put13, dR]
  refine hK _ ?_
  refine CW_no rfl ?_
  refine CW_reg fun K_ hK => ?_
  simp [wk, vk, ek, ok, lk, buildD, fillD, thr, dOf, dRow, row13, rowK, put13, dR]
  refine hK _ ?_
  refine CW_no rfl ?_
  refine CW_reg fun K_ hK => ?_
  simp [wk, vk, ek, ok, lk, buildD, fillD, thr, dOf, dRow, row13, rowK, put13, dR]
  refine hK _ ?_
  refine CW_no rfl ?_
  refine CW_seq1 ?_
  refine CW_reg fun K_ hK => ?_
  simp [wk, vk, ek, ok, lk, buildD, fillD, thr, dOf, dRow, row13, rowK, put13, dR]
  refine hK _ ?_
  refine CW_yes rfl ?_
  refine CW_sk ?_
  refine CW_yes rfl ?_
  refine CW_reg1 fun K_ hK => ?_
  simp [wk, vk, ek, ok, lk, buildD, fillD, thr, dOf, dRow, row13, rowK, put13, dR]
  refine CallW_use (more109q x.1.queue hl m.seq m hm) ?_
  simp [wk, vk, ek, ok, lk, buildD, fillD, thr, dOf, dRow, row13, rowK, put13, dR]
  refine hK _ ?_
  refine hn0 _ ?_
  refine CW_reg fun K_ hK => ?_
  simp [wk, vk, ek, ok, lk, buildD, fillD, thr, dOf, dRow, row13, rowK, put13, dR]
  refine hK _ ?_
  refine CW_rt ?_
  refine ends_ret ?_
  simp [Tryz.results69, resD, resL, resD1, vk, wk, ok, lk, buildD, fillD, ek, dOf, put13, dOf, dRow, row13, rowK, put13, dR]
theorem add69s (L : Laid W) (x : Sub × List Nat) (y : Sub) (hy : SubOK y)  : Fc T W 69 [dOf x, dRow (row13 y (.sub))] (dOf (put13 y x (.sub))) := by
  refine Fc_intro (thr := thr) hmix Tryz.func69 rfl (by kernel_rfl) (by simp [Tryz.ntmps69]) ?_
  refine CW_reg fun K_ hK => ?_
  simp [wk, vk, ek, ok, lk, buildD, fillD, thr, dOf, dRow, row13, rowK, put13, dR]
  refine hK _ ?_
  refine CW_reg fun K_ hK => ?_
  simp [wk, vk, ek, ok, lk, buildD, fillD, thr, dOf, dRow, row13, rowK, put13, dR]
  refine CallW_use (parts_ok L 2 115 y.id 0 (by decide) (by decide) (by have := hy.id; omega) (by decide)) ?_
  simp [wk, vk, ek, ok, lk, buildD, fillD, thr, dOf, dRow, row13, rowK, put13, dR]
  refine hK _ ?_
  refine CW_reg fun K_ hK => ?_
  simp [wk, vk, ek, ok, lk, buildD, fillD, thr, dOf, dRow, row13, rowK, put13, dR]
  refine hK _ ?_
  refine CW_seq1 ?_
  refine CW_reg fun K_ hK => ?_
  simp [wk, vk, ek, ok, lk, buildD, fillD, thr, dOf, dRow, row13, rowK, put13, dR]
  refine hK _ ?_
  refine CW_blk fun K0 hn0 hx0 hr0 hj0 => ?_
  refine CW_reg fun K_ hK => ?_
  simp [wk, vk, ek, ok, lk, buildD, fillD, thr, dOf, dRow, row13, rowK, put13, dR]
  refine hK _ ?_
  refine CW_no rfl ?_
  refine CW_reg fun K_ hK => ?_
  simp [wk, vk, ek, ok, lk, buildD, fillD, thr, dOf, dRow, row13, rowK, put13, dR]
  refine hK _ ?_
  refine CW_no rfl ?_
  refine CW_reg fun K_ hK => ?_
  simp [wk, vk, ek, ok, lk, buildD, fillD, thr, dOf, dRow, row13, rowK, put13, dR]
  refine hK _ ?_
  refine CW_no rfl ?_
  refine CW_seq1 ?_
  refine CW_reg fun K_ hK => ?_
  simp [wk, vk, ek, ok, lk, buildD, fillD, thr, dOf, dRow, row13, rowK, put13, dR]
  refine hK _ ?_
  refine CW_no rfl ?_
  refine CW_reg1 fun K_ hK => ?_
  simp [wk, vk, ek, ok, lk, buildD, fillD, thr, dOf, dRow, row13, rowK, put13, dR]
  refine hK _ ?_
  refine CW_no rfl ?_
  refine CW_reg fun K_ hK => ?_
  simp [wk, vk, ek, ok, lk, buildD, fillD, thr, dOf, dRow, row13, rowK, put13, dR]
  refine hK _ ?_
  refine CW_yes rfl ?_
  refine CW_reg1 fun K_ hK => ?_
  simp [wk, vk, ek, ok, lk, buildD, fillD, thr, dOf, dRow, row13, rowK, put13, dR, dSub]
  refine CallW_use (sub110 { x.1 with id := y.id } y hy) ?_
  simp [wk, vk, ek, ok, lk, buildD, fillD, thr, dOf, dRow, row13, rowK, put13, dR, dSub]
  refine hK _ ?_
  refine hn0 _ ?_
  refine CW_reg fun K_ hK => ?_
  simp [wk, vk, ek, ok, lk, buildD, fillD, thr, dOf, dRow, row13, rowK, put13, dR]
  refine hK _ ?_
  refine CW_rt ?_
  refine ends_ret ?_
  simp [Tryz.results69, resD, resL, resD1, vk, wk, ok, lk, buildD, fillD, ek, dOf, put13, dOf, dRow, row13, rowK, put13, dR]
theorem add69x (L : Laid W) (x : Sub × List Nat) (y : Sub) (hy : SubOK y) (m : Msg) (hm : MsgOK m) (hl : x.1.queue.length ≤ 1000) : Fc T W 69 [dOf x, dRow (row13 y (.more m))] (dOf (put13 y x (.more m))) := by
  refine Fc_intro (thr := thr) hmix Tryz.func69 rfl (by kernel_rfl) (by simp [Tryz.ntmps69]) ?_
  refine CW_reg fun K_ hK => ?_
  simp [wk, vk, ek, ok, lk, buildD, fillD, thr, dOf, dRow, row13, rowK, put13, dR]
  refine hK _ ?_
  refine CW_reg fun K_ hK => ?_
  simp [wk, vk, ek, ok, lk, buildD, fillD, thr, dOf, dRow, row13, rowK, put13, dR]
  refine CallW_use (parts_ok L 2 120 y.id m.seq (by decide) (by decide) (by have := hy.id; omega) (by have := hm.seq; omega)) ?_
  simp [wk, vk, ek, ok, lk, buildD, fillD, thr, dOf, dRow, row13, rowK, put13, dR]
  refine hK _ ?_
  refine CW_reg fun K_ hK => ?_
  simp [wk, vk, ek, ok, lk, buildD, fillD, thr, dOf, dRow, row13, rowK, put13, dR]
  refine hK _ ?_
  refine CW_seq1 ?_
  refine CW_reg fun K_ hK => ?_
  simp [wk, vk, ek, ok, lk, buildD, fillD, thr, dOf, dRow, row13, rowK, put13, dR]
  refine hK _ ?_
  refine CW_blk fun K0 hn0 hx0 hr0 hj0 => ?_
  refine CW_reg fun K_ hK => ?_
  simp [wk, vk, ek, ok, lk, buildD, fillD, thr, dOf, dRow, row13, rowK, put13, dR]
  refine hK _ ?_
  refine CW_no rfl ?_
  refine CW_reg fun K_ hK => ?_
  simp [wk, vk, ek, ok, lk, buildD, fillD, thr, dOf, dRow, row13, rowK, put13, dR]
  refine hK _ ?_
  refine CW_no rfl ?_
  refine CW_reg fun K_ hK => ?_
  simp [wk, vk, ek, ok, lk, buildD, fillD, thr, dOf, dRow, row13, rowK, put13, dR]
  refine hK _ ?_
  refine CW_no rfl ?_
  refine CW_seq1 ?_
  refine CW_reg fun K_ hK => ?_
  simp [wk, vk, ek, ok, lk, buildD, fillD, thr, dOf, dRow, row13, rowK, put13, dR]
  refine hK _ ?_
  refine CW_no rfl ?_
  refine CW_reg1 fun K_ hK => ?_
  simp [wk, vk, ek, ok, lk, buildD, fillD, thr, dOf, dRow, row13, rowK, put13, dR]
  refine hK _ ?_
  refine CW_yes rfl ?_
  refine CW_reg1 fun K_ hK => ?_
  simp [wk, vk, ek, ok, lk, buildD, fillD, thr, dOf, dRow, row13, rowK, put13, dR]
  refine CallW_use (more109x x.1.queue hl m.seq m hm) ?_
  simp [wk, vk, ek, ok, lk, buildD, fillD, thr, dOf, dRow, row13, rowK, put13, dR]
  refine hK _ ?_
  refine hn0 _ ?_
  refine CW_reg fun K_ hK => ?_
  simp [wk, vk, ek, ok, lk, buildD, fillD, thr, dOf, dRow, row13, rowK, put13, dR]
  refine hK _ ?_
  refine CW_rt ?_
  refine ends_ret ?_
  simp [Tryz.results69, resD, resL, resD1, vk, wk, ok, lk, buildD, fillD, ek, dOf, put13, dOf, dRow, row13, rowK, put13, dR]
end Go.Proofs.YtobamidecbfgpaaGreatDoor
