/- Archives: the sums and the digests of the given program as ChunkPure's; what lies as it lay; head, part, Clone, HasPrefix and pieces of the given program: their walks. -/
import Derived.Test.YtpnlpbbnakplhaaDoorSeqA
import Derived.Test.YtpnlpbbnakplhaaDoorRow
import Derived.Test.YtpnlpbbnakplhaaDoorBpartx1
import Derived.Test.YtpnlpbbnakplhaaDoorCrcFns
import Derived.Test.YtpnlpbbnakplhaaDoorChunkPure
import Derived.Lib.SlBytesConst
import Derived.Lib.LazyBuf
namespace Go.Proofs.YtpnlpbbnakplhaaDoor
open Go.RowKit Go.Shelf Go.Proofs.YtpnlpbbnakplhaaDoorW.PrintWords Go.Proofs.YtpnlpbbnakplhaaDoorW.PrintLast Go.Proofs.YtpnlpbbnakplhaaDoorW.PrintMore Go.Proofs.YtpnlpbbnakplhaaDoor.BRight Go.Proofs.YtpnlpbbnakplhaaDoor.Bpart
open ChunkPure (Sums)
set_option linter.unusedVariables false
def sumI (l : List Int) : Int := bits .xor .u32 4294967295 (crcRun l (bits .xor .u32 4294967295 0))
def Z : Sums := { sum := fun l => le4 (sumI l), dig := digest, hs := fun _ => rfl, hd := fun l => by simp [digest, outB] }
abbrev Row (w : World) (base : Nat) (ok : Nat → Prop) (v : Value) (l : List Int) : Prop := Kd.R (Kd.int .u8) 5 w base ok v l
abbrev Reads (w : World) (A : Option Addr) (l : List Int) : Prop := Kd.C (Kd.int .u8) w A l.length l
theorem seal_some (l : List Int) (hn : l.length ≤ 1099511627776) : crc_Seal.f l = some (ChunkPure.sealL Z l) := by
  unfold crc_Seal.f crc_Sum.f crc_More.f
  have hw : wrap64 ((l.length : Int) + 4) = (l.length : Int) + 4 := wrap_small _ (by omega) (by omega)
  rw [if_pos (by omega)]
  simp only [Option.bind_some, hw]
  rw [if_pos (by omega), if_pos (by omega), if_pos (by simp; omega), if_pos (by simp; omega)]
  simp [ChunkPure.sealL, Z, le4, sumI]
theorem sealL_bytes {l : List Int} (hl : Bytes l) : Bytes (ChunkPure.sealL Z l) := bytes_append hl (le4_bytes _)
theorem right_some (l : List Int) (hl : Bytes l) (hn : l.length ≤ 1099511627776) : crc_Right.f l = some (decide (ChunkPure.Right Z l)) := by
  unfold crc_Right.f
  have hw : wrap64 ((l.length : Int) - 4) = (l.length : Int) - 4 := wrap_small _ (by omega) (by omega)
  rw [hw]
  by_cases h : 4 ≤ l.length
  · rw [if_pos (by omega), if_pos (by omega), if_pos (by omega), show ((l.length : Int) - 4).toNat = l.length - 4 by omega, seal_some _ (by rw [List.length_take]; omega)]
    simp only [Option.bind_some, bytes_Equal.f, str_beq (sealL_bytes (bytes_take hl _)) hl, Option.some.injEq]
    rw [decide_eq_decide]
    unfold ChunkPure.Right ChunkPure.sealL
    constructor
    · intro e
      refine ⟨h, ?_⟩
      have := congrArg (List.drop (l.length - 4)) e
      rwa [List.drop_append, List.drop_take, List.length_take, show min (l.length - 4) l.length = l.length - 4 by omega, Nat.sub_self, List.take_zero, List.nil_append, List.drop_zero] at this
    · rintro ⟨_, e⟩
      rw [e, List.take_append_drop]
  · rw [if_neg (by omega), decide_eq_false (fun hh => h hh.1)]
theorem part_some (i : Nat) (c : List Int) (hi : i < 65536) (hc : c.length ≤ 255) : chunk_part.f i c = some (ChunkPure.part Z i c) := by
  unfold chunk_part.f ChunkPure.part
  simp only [Option.bind_some]
  rw [if_pos (by simp; omega), seal_some _ (by simp; omega)]
  simp only [Option.bind_some, List.cons_append, List.nil_append]
  rw [show ((i : Int) / 256) % 256 = ((i / 256 : Nat) : Int) by omega, show (i : Int) % 256 = ((i % 256 : Nat) : Int) by omega, show ((c.length : Int)) % 256 = ((c.length : Nat) : Int) by omega]

/-! ### What lies as it lay -/
/-- Every block of W in S lies as it lay; the streams are as they were; no block has gone. -/
structure Kept (S : Nat → Prop) (W W' : World) : Prop where
  os : W'.os = W.os
  tape : W'.tape = W.tape
  output : W'.output = W.output
  size : W.heap.size ≤ W'.heap.size
  same : ∀ k, k < W.heap.size → S k → W'.heap[k]? = W.heap[k]?
namespace Kept
variable {S S' : Nat → Prop} {W W1 W2 : World}
theorem refl (S : Nat → Prop) (W : World) : Kept S W W := ⟨rfl, rfl, rfl, Nat.le_refl _, fun _ _ _ => rfl⟩
theorem trans (h : Kept S W W1) (h' : Kept S' W1 W2) (hs : ∀ k, k < W.heap.size → S k → S' k) : Kept S W W2 :=
  ⟨h'.os.trans h.os, h'.tape.trans h.tape, h'.output.trans h.output, Nat.le_trans h.size h'.size, fun k hk hk' => (h'.same k (Nat.lt_of_lt_of_le hk h.size) (hs k hk hk')).trans (h.same k hk hk')⟩
theorem mono (h : Kept S W W1) (hs : ∀ k, k < W.heap.size → S' k → S k) : Kept S' W W1 := ⟨h.os, h.tape, h.output, h.size, fun k hk hk' => h.same k hk (hs k hk hk')⟩
theorem of_below {B : Nat} (h : Below B W W1) : Kept (fun k => k < B) W W1 := ⟨h.os, h.tape, h.output, h.size, fun k _ hk => h.block k hk⟩
theorem all (h : Below W.heap.size W W1) : Kept S W W1 := ⟨h.os, h.tape, h.output, h.size, fun k hk _ => h.block k hk⟩
theorem below {B : Nat} (h : Kept (fun k => k < B) W W1) (hB : B ≤ W.heap.size) : Below B W W1 := ⟨h.os, h.tape, h.output, h.size, fun k hk => h.same k (Nat.lt_of_lt_of_le hk hB) hk⟩
theorem alloc (h : Kept S W W1) (o : Obj) : Kept S W (W1.alloc o) := h.trans (S' := fun _ => True) (all ((Below.refl _ _).alloc (Nat.le_refl _) o)) (fun _ _ _ => trivial)
theorem drew (h : Kept S W W1) : Kept S W W1.drew := ⟨h.os, h.tape, h.output, h.size, h.same⟩
theorem setCell (h : Kept S W W1) (p : Addr) (v : Value) (hp : ¬ S p.block ∨ W.heap.size ≤ p.block) : Kept S W (W1.setCell p v) :=
  ⟨h.os, h.tape, h.output, by simpa [World.setCell] using h.size, fun k hk hk' => (Below.heap_setCell W1 p v k (fun e => by subst e; exact hp.elim (fun hn => hn hk') (fun hh => by omega))).trans (h.same k hk hk')⟩
theorem putObj (h : Kept S W W1) (g : Nat) (o : Obj) (hp : ¬ S g ∨ W.heap.size ≤ g) : Kept S W (W1.putObj g o) :=
  ⟨h.os, h.tape, h.output, by simpa [World.putObj] using h.size, fun k hk hk' => (World.putObj_heap_other (fun e => by subst e; exact hp.elim (fun hn => hn hk') (fun hh => by omega))).trans (h.same k hk hk')⟩
theorem grown (h : Kept S W W1) {row : Option Nat} (hg : W1.grownBy W2 row) (hr : ∀ k, row = some k → ¬ S k ∨ W.heap.size ≤ k) : Kept S W W2 :=
  ⟨hg.os.trans h.os, hg.tape.trans h.tape, hg.output.trans h.output, Nat.le_trans h.size hg.size, fun k hk hk' => (hg.block k (Nat.lt_of_lt_of_le hk h.size) (fun e => (hr k e.symm).elim (fun hn => hn hk') (fun hh => by omega))).trans (h.same k hk hk')⟩
theorem block (h : Kept S W W1) {k : Nat} {o : Obj} (hk : W.heap[k]? = some o) (hs : S k) : W1.heap[k]? = some o := (h.same k (Array.getElem?_eq_some_iff.1 hk).1 hs).trans hk
theorem row (h : Kept S W W1) {base : Nat} {ok : Nat → Prop} {v : Value} {l : List Int} (hr : Row W base ok v l) (hs : ∀ k, ok k → S k) : Row W1 base ok v l := Kd.R_step hr (fun k ho hk => h.same k hk (hs k ho))
theorem reads (h : Kept S W W1) {ad : Addr} {l : List Int} (hr : Reads W (some ad) l) (hs : S ad.block) : Reads W1 (some ad) l := by
  refine Kd.C_of_reads (d := 0) (h1 := fun _ => rfl) ⟨rfl, hr.2.1, fun _ => ⟨ad, rfl, fun j hj => ?_⟩⟩
  obtain ⟨ad', e', hc'⟩ := Kd.at_int hr (j : Int) (by omega) (by omega)
  cases e'
  rw [Int.toNat_natCast] at hc'
  have hb : (ad.add j).block = ad.block := by unfold Addr.add; split <;> rfl
  have hlt := block_lt_of_cell hc'
  have : W1.cell? (ad.add j) = W.cell? (ad.add j) := by
    unfold World.cell?
    rw [h.same _ hlt (by rw [hb]; exact hs)]
  rw [this, hc']
  simp [rd, List.getD, hj]
end Kept
theorem reads_block {W : World} {ad : Addr} {l : List Int} (hr : Reads W (some ad) l) (hl : 0 < l.length) : ad.block < W.heap.size := by
  obtain ⟨ad', e', hc'⟩ := Kd.at_int hr 0 (by omega) (by omega)
  cases e'
  have hb : (ad.add (0 : Int).toNat).block = ad.block := by unfold Addr.add; split <;> rfl
  rw [← hb]
  exact block_lt_of_cell hc'

/-! ### The small functions -/
theorem chunk_part_calls (i : Nat) (A : Option Addr) (cp : Nat) (c : List Int) (w : World) (hi : i < 65536) (hc : c.length ≤ 255) (hr : Reads w A c) (hcp : c.length ≤ cp) :
    Calls Tryd.prog 44 #[.int .i64 (i : Nat), .slice A c.length cp] w fun e w' => ∃ v, e = .returned v ∧ Row w' w.heap.size (fun _ => True) v (ChunkPure.part Z i c) ∧ Below w.heap.size w w' :=
  chunk_part.calls i A cp c _ w hr hcp (part_some i c hi hc)
set_option maxHeartbeats 1000000 in
theorem bytes_Clone_calls (A : Addr) (c : Nat) (l : List Int) (w : World) (hr : Reads w (some A) l) (hc : l.length ≤ c) (hl : l.length ≤ 1099511627776) :
    Calls Tryd.prog 42 #[.slice (some A) l.length c] w fun e w' => ∃ v, e = .returned v ∧ Row w' w.heap.size (fun _ => True) v l ∧ Below w.heap.size w w' := by
  have HR := Aside0.mk hr
  clear hr
  have kn := fun (w : World) (n c : Nat) => Go.run_eql_slice_nil (P := Tryd.prog) w 22 5 (some A) n c Tryd.underlying22
  go_enter Tryd.func42, Tryd.ntmps42
  go_wp2_with (first
    | ((with_reducible refine gate_dst (N := 5) rfl ?_); refine Kd.R_lit (Kd.int .u8) (w0 := w) w.heap.size 5 ?hg (N := 5) ?hd (xs := ([] : List Int)) (inner := []) (ok := fun _ => True) (okp := fun _ => True) ?hr (Reps.none _ _) (fun _ hk => hk) trivial (Below.refl _ _) (Nat.le_refl _) (by simp) ?_; (case hd => rfl); (case hg => rfl); (case hr => first | (go_simp; done) | (go_simp; rfl)); intro v0 w0 ho hb hg_ hnew_; clear hg_ hnew_; have HO0 := Aside0.mk ho; have HB0 := Aside0.mk hb; clear ho hb)
    | ((with_reducible refine gate_builtin (b := .append) (xs := #[.tmp 5, .tmp 6]) rfl ?_); at_builtin; refine Kd.R_append_rows (Kd.int .u8) (w0 := w) w.heap.size rfl (.tmp 5) (.tmp 6) 22 5 (.int .u8 0) 1 rfl Tryd.underlying22 info5 rfl (by decide) (by omega) v0 ([] : List Int) l (some A) l.length c (fun _ => True) (fun _ => False) rfl rfl ?aO ?aR (fun _ _ h => h) (fun _ h => h.elim) ?aF ?aB ?aS ?aL ?_; (case aR => exact Kd.C_below HR.out HB0.out); (case aB => exact HB0.out); (case aF => exact (fun _ _ => trivial)); (case aO => exact HO0.out); (case aS => exact HB0.out.size); (case aL => simp; omega); intro v1 w1 ho hb hg hat; have HO1 := Aside0.mk ho; have HB1 := Aside0.mk hb; clear ho hb hg hat))
  go_ret
  exact ⟨_, rfl, by simpa using HO1.out, HB1.out⟩
theorem pieces_calls (A : Option Addr) (L c : Nat) (w : World) :
    Calls Tryd.prog 25 #[.slice A L c] w fun e w' => e = .returned (.func (.func 40) #[] #[.pointer (some ⟨w.heap.size, 0, none⟩)]) ∧ w' = w.alloc (.cells #[.slice A L c] 22) := by
  go_enter Tryd.func25, Tryd.ntmps25
  go_wp2
  go_ret
  exact ⟨rfl, rfl⟩
theorem mark_bytes : Bytes ChunkPure.mark := by intro c hc; simp [ChunkPure.mark] at hc; unfold Byte; omega
set_option maxHeartbeats 1000000 in
/-- Does the row begin with the mark? -/
theorem bytes_HasPrefix_calls (A A1 : Addr) (c c1 : Nat) (l : List Int) (w : World) (hr : Reads w (some A) l) (hc : l.length ≤ c) (hr1 : Reads w (some A1) ChunkPure.mark) (hc1 : ChunkPure.mark.length ≤ c1) (hl : 4 ≤ l.length) (hb : Bytes l) :
    Calls Tryd.prog 28 #[.slice (some A) l.length c, .slice (some A1) 4 c1] w fun e w' => e = .returned (.bool (decide (l.take 4 = ChunkPure.mark))) ∧ Drawn0 w w' := by
  have e1 : decide ((4 : Int) ≤ (l.length : Int)) = true := decide_eq_true (by omega)
  have ht : (l.take 4).length = 4 := by rw [List.length_take]; omega
  have hrt : Reads w (some A) (l.take 4) := Kd.C_take hr hl
  have hq := bytes_Equal.calls (some A) c (l.take 4) (some A1) c1 ChunkPure.mark (decide (l.take 4 = ChunkPure.mark)) w hrt (by omega) hr1 hc1 (by unfold bytes_Equal.f; rw [str_beq (bytes_take hb 4) mark_bytes])
  rw [ht, show ChunkPure.mark.length = 4 from rfl] at hq
  generalize decide (l.take 4 = ChunkPure.mark) = r at *
  have HQ := Aside0.mk hq
  clear hq hr hr1 hrt
  go_enter Tryd.func28, Tryd.ntmps28
  go_wp2_with (first | (go_at_call 30; refine HQ.out.mono ?_; rintro e w1 ⟨rfl, hd⟩; have HD := Aside0.mk hd; clear hd))
  go_ret
  exact ⟨rfl, HD.out⟩
theorem head_first (w wr w' : World) (n : Nat) (v' : Value) (hn : n ≤ 1048576) (hb : Below w.heap.size w wr)
    (hown : w'.ownsRow (wr.alloc (Obj.cells #[Value.int IntKind.u8 ((n : Int) / 16777216)] 5)).heap.size 5 1 v' (4 + 1) (List.map (Value.int IntKind.u8) [82, 83, 65, 49] ++ [Value.int IntKind.u8 ((n : Int) / 16777216)]))
    (hg : (wr.alloc (Obj.cells #[Value.int IntKind.u8 ((n : Int) / 16777216)] 5)).grownBy w' none) :
    Row w' w.heap.size (fun _ => True) v' (ChunkPure.mark ++ (ChunkPure.be4 n).take 1) ∧ Below w.heap.size w w' := by
  have hs : w.heap.size ≤ (wr.alloc (Obj.cells #[Value.int IntKind.u8 ((n : Int) / 16777216)] 5)).heap.size := by
    have := hb.size
    show w.heap.size ≤ (wr.heap.push _).size
    simp; omega
  refine ⟨Kd.R_lower (Kd.R_of_own (enc := Value.int .u8) ?_ (fun _ _ => trivial)) hs, (hb.alloc hb.size _).grown hg hs (fun k hk => by cases hk)⟩
  have : (ChunkPure.mark ++ (ChunkPure.be4 n).take 1).length = 4 + 1 := by simp [ChunkPure.mark, ChunkPure.be4]
  rw [this]
  simpa [ChunkPure.mark, ChunkPure.be4, encs] using hown
set_option maxHeartbeats 2000000 in
theorem chunk_head_calls (n : Nat) (hn : n ≤ 1048576) (w : World) :
    Calls Tryd.prog 41 #[.int .i64 n] w fun e w' => ∃ v, e = .returned v ∧ Row w' w.heap.size (fun _ => True) v (ChunkPure.head Z n) ∧ Below w.heap.size w w' := by
  have kc := fun (w : World) (C : Array Value) (n c : Nat) => Lib.run_convert_bytes_const (P := Tryd.prog) w 22 5 C n c Tryd.underlying22 Tryd.underlying5
  go_enter Tryd.func41, Tryd.ntmps41
  go_wp2_with fail
  have hm : (w.alloc (.cells #[Value.int IntKind.u8 82, Value.int IntKind.u8 83, Value.int IntKind.u8 65, Value.int IntKind.u8 49] 5 (4, 5))).heap[w.heap.size]? = some (.cells (([82, 83, 65, 49] : List Int).map (Value.int .u8)).toArray 5 (4, 5)) := heap_alloc_new _ _
  have hbm := (Below.refl w.heap.size w).alloc (Nat.le_refl _) (.cells #[Value.int IntKind.u8 82, Value.int IntKind.u8 83, Value.int IntKind.u8 65, Value.int IntKind.u8 49] 5 (4, 5))
  generalize hW : w.alloc (.cells #[Value.int IntKind.u8 82, Value.int IntKind.u8 83, Value.int IntKind.u8 65, Value.int IntKind.u8 49] 5 (4, 5)) = wm at *
  have HM := Aside0.mk hm
  have HBM := Aside0.mk hbm
  clear hm hbm hW
  go_loopw [3, 7] (fun v3 v7 wr => ∃ i : Nat, i ≤ 4 ∧ v7 = .int .i64 i ∧ ((i = 0 ∧ v3 = .slice (some ⟨w.heap.size, 0, none⟩) 4 4 ∧ wr = wm) ∨ (0 < i ∧ Aside0 (Row wr w.heap.size (fun _ => True) v3 (ChunkPure.mark ++ (ChunkPure.be4 n).take i)) ∧ Aside0 (Below w.heap.size w wr)))) (fun _ v7 _ => 4 - (intOf v7).toNat)
  case atStart => exact ⟨0, by omega, rfl, .inl ⟨rfl, rfl, rfl⟩⟩
  case round =>
    obtain ⟨i, hi, rfl, hv⟩ := hrel
    rcases hv with ⟨rfl, rfl, rfl⟩ | ⟨hi0, HO, HB⟩
    · obtain ⟨i0, hi5, hz0, hz1, hz2⟩ := info_parts info5
      have hold : ∀ (j : Nat) (u : Value), (([82, 83, 65, 49] : List Int).map (Value.int .u8))[j]? = some u → ∀ o : Obj, (wr.alloc o).cell? ((⟨w.heap.size, 0, none⟩ : Addr).add j) = some u := by
        intro j u hj o
        rw [Addr.add_lit, Nat.zero_add, cell_of_row _ _ _ _ _ _ ((_root_.Go.heap_alloc_old wr o (Array.getElem?_eq_some_iff.1 HM.out).1).trans HM.out)]
        simpa using hj
      go_wp2_with (at_builtin; refine wpList_append_grows _ rfl (.tmp 10) (.tmp 17) 22 rfl 5 i0 (.int .u8 0) 1 1 Tryd.underlying22 hi5 hz0 hz1 hz2 rfl (by decide) (some ⟨w.heap.size, 0, none⟩) 4 4 (([82, 83, 65, 49] : List Int).map (Value.int .u8)) rfl (fun h => by cases h) rfl (fun b hb j u hj => by cases hb; exact hold j u hj _) ⟨wr.heap.size, 0, none⟩ 1 1 [.int .u8 ((n : Int) / 16777216)] rfl rfl (cell_one_new _ _ _) (by simp [Value.oneCell']) (by omega) (by simp [maxLen]) (by omega) ?_; intro v' w' hown hg; obtain ⟨hrow, hbl⟩ := head_first w wr w' n v' hn HBM.out hown hg; have HO := Aside0.mk hrow; have HB := Aside0.mk hbl; clear hown hg hrow hbl)
      go_roundw
      case rel => exact ⟨1, by omega, rfl, .inr ⟨by omega, HO, HB⟩⟩
      case measure => simp [intOf]
    · have hlen : (ChunkPure.mark ++ (ChunkPure.be4 n).take i).length = 4 + i := by rw [List.length_append, List.length_take]; simp [ChunkPure.mark, ChunkPure.be4]; omega
      by_cases h4 : i = 4
      · subst h4
        obtain ⟨A3, c3, rfl⟩ := Kd.R_slice HO.out
        rw [hlen] at HO ⊢
        have hsl : ChunkPure.mark ++ (ChunkPure.be4 n).take 4 = ChunkPure.mark ++ ChunkPure.be4 n := by rfl
        rw [hsl] at HO hlen
        have hcs := crc_Seal.calls A3 c3 (ChunkPure.mark ++ ChunkPure.be4 n) _ wr (by rw [hlen]; have := (Kd.R_reads' HO.out).2.2; rwa [hlen] at this) (by rw [hlen]; exact (Kd.R_reads' HO.out).2.1) (seal_some _ (by rw [hlen]; omega))
        rw [hlen] at hcs
        have HCS := Aside0.mk hcs
        clear hcs
        go_wp2_with (first | (go_at_call 45; refine HCS.out.mono ?_; rintro e w9 ⟨v9, rfl, ho, hb⟩; have HO9 := Aside0.mk ho; have HB9 := Aside0.mk hb; clear ho hb))
        go_ret
        exact ⟨_, rfl, Kd.R_lower HO9.out HB.out.size, below_step HB.out HB9.out⟩
      · have hx : ∃ x : Int, (ChunkPure.be4 n).take (i + 1) = (ChunkPure.be4 n).take i ++ [x] ∧ (((i = 1 ∧ x = (n : Int) / 65536) ∨ (i = 2 ∧ x = (n : Int) / 256 % 256) ∨ (i = 3 ∧ x = (n : Int) % 256))) := by
          have : i = 1 ∨ i = 2 ∨ i = 3 := by omega
          rcases this with rfl | rfl | rfl
          · exact ⟨(n : Int) / 65536, by simp [ChunkPure.be4]; omega, by simp⟩
          · exact ⟨_, rfl, by simp [ChunkPure.be4]⟩
          · exact ⟨_, rfl, by simp [ChunkPure.be4]⟩
        obtain ⟨x, hx1, hx2⟩ := hx
        obtain ⟨A3, c3, rfl⟩ := Kd.R_slice HO.out
        rw [hlen] at HO ⊢
        have HX := Aside0.mk hx1
        clear hx1
        rcases hx2 with ⟨rfl, hx⟩ | ⟨rfl, hx⟩ | ⟨rfl, hx⟩
        · have HE := Aside0.mk hx
          replace hx := hx.symm
          go_wp2_with ((with_reducible refine gate_builtin (b := .append) (xs := #[.tmp 10, .tmp 17]) rfl ?_); at_builtin; refine Kd.R_append (Kd.int .u8) (w0 := w) w.heap.size rfl (.tmp 10) (.tmp 17) 22 5 (.int .u8 0) 1 rfl Tryd.underlying22 info5 rfl (by decide) (by omega) (.slice A3 5 c3) (ChunkPure.mark ++ (ChunkPure.be4 n).take 1) x [.int .u8 x] (fun _ => True) (fun _ => False) rfl rfl ?aP (fun _ hk => hk.elim) ?aF ?aO ?aB ?aS ?aL ?_; (case aO => exact HO.out); (case aP => exact rfl); (case aB => exact HB.out); (case aF => exact (fun _ _ => trivial)); (case aS => exact HB.out.size); (case aL => omega); intro v3 w5 ho hb hg hat; have HO3 := Aside0.mk ho; have HB5 := Aside0.mk hb; clear ho hb hg hat)
          go_roundw
          case rel => exact ⟨2, by omega, rfl, .inr ⟨by omega, ⟨by rw [HX.out, ← List.append_assoc]; exact HO3.out⟩, HB5⟩⟩
          case measure => simp [intOf]
        · have HE := Aside0.mk hx
          replace hx := hx.symm
          go_wp2_with ((with_reducible refine gate_builtin (b := .append) (xs := #[.tmp 10, .tmp 17]) rfl ?_); at_builtin; refine Kd.R_append (Kd.int .u8) (w0 := w) w.heap.size rfl (.tmp 10) (.tmp 17) 22 5 (.int .u8 0) 1 rfl Tryd.underlying22 info5 rfl (by decide) (by omega) (.slice A3 6 c3) (ChunkPure.mark ++ (ChunkPure.be4 n).take 2) x [.int .u8 x] (fun _ => True) (fun _ => False) rfl rfl ?aP (fun _ hk => hk.elim) ?aF ?aO ?aB ?aS ?aL ?_; (case aO => exact HO.out); (case aP => exact rfl); (case aB => exact HB.out); (case aF => exact (fun _ _ => trivial)); (case aS => exact HB.out.size); (case aL => omega); intro v3 w5 ho hb hg hat; have HO3 := Aside0.mk ho; have HB5 := Aside0.mk hb; clear ho hb hg hat)
          go_roundw
          case rel => exact ⟨3, by omega, rfl, .inr ⟨by omega, ⟨by rw [HX.out, ← List.append_assoc]; exact HO3.out⟩, HB5⟩⟩
          case measure => simp [intOf]
        · have HE := Aside0.mk hx
          replace hx := hx.symm
          go_wp2_with ((with_reducible refine gate_builtin (b := .append) (xs := #[.tmp 10, .tmp 17]) rfl ?_); at_builtin; refine Kd.R_append (Kd.int .u8) (w0 := w) w.heap.size rfl (.tmp 10) (.tmp 17) 22 5 (.int .u8 0) 1 rfl Tryd.underlying22 info5 rfl (by decide) (by omega) (.slice A3 7 c3) (ChunkPure.mark ++ (ChunkPure.be4 n).take 3) x [.int .u8 x] (fun _ => True) (fun _ => False) rfl rfl ?aP (fun _ hk => hk.elim) ?aF ?aO ?aB ?aS ?aL ?_; (case aO => exact HO.out); (case aP => exact rfl); (case aB => exact HB.out); (case aF => exact (fun _ _ => trivial)); (case aS => exact HB.out.size); (case aL => omega); intro v3 w5 ho hb hg hat; have HO3 := Aside0.mk ho; have HB5 := Aside0.mk hb; clear ho hb hg hat)
          go_roundw
          case rel => exact ⟨4, by omega, rfl, .inr ⟨by omega, ⟨by rw [HX.out, ← List.append_assoc]; exact HO3.out⟩, HB5⟩⟩
          case measure => simp [intOf]
end Go.Proofs.YtpnlpbbnakplhaaDoor
