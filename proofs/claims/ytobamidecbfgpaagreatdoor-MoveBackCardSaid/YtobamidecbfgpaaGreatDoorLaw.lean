-- The row of MoveBack, and its tied card: turned round at any step, and gone back, all is in the version that it was in; a state is read as it was at each step. The walk stands in the text ..Bk (a shadow of the run); here what comes in is opened and what goes out is shut.
import Derived.Test.YtobamidecbfgpaaGreatDoorRows
import Derived.Test.YtobamidecbfgpaaGreatDoorCards
import Derived.Test.YtobamidecbfgpaaGreatDoorTie
import Derived.Test.YtobamidecbfgpaaGreatDoorBk
import Derived.WalkKit
import Derived.ProofKit
import Derived.OpenShut
import Derived.ShutString
import Derived.ChangeOld
import Derived.Below
import Derived.SizedLaws
import Derived.Lib.LaidTab
import Derived.LaidMore
import Derived.MakeChecks
import Derived.Stop.Joined
import Derived.Stop.LaidErr
namespace Go.Proofs.YtobamidecbfgpaaGreatDoor.moveBack
open Go Go.Sh Go.ChangeShapes Go.WideShapes Go.ChangeAt Go.RowKit
set_option linter.unusedVariables false
def laidTabs : List (String × DataW Unit) := [("math/bits.deBruijn32tab", Rows.laid_math_bits_deBruijn32tab), ("math/bits.deBruijn64tab", Rows.laid_math_bits_deBruijn64tab), ("internal/strconv.uint64pow10", Rows.laid_internal_strconv_uint64pow10), ("strconv.ErrRange", Rows.laid_strconv_ErrRange), ("strconv.ErrSyntax", Rows.laid_strconv_ErrSyntax)]
theorem gPow : Tryz.prog.globalNamed "internal/strconv.uint64pow10" = some 2 := by kernel_rfl
theorem tPow : (Tryz.prog.globals[2]?).map (·.type) = some 183 := by kernel_rfl
theorem door_met (os : Os) (args : Array Value) : laidMetH Tryz.prog laidTabs ((World.doorLaid Tryz.prog 65 os).forCall (fun _ _ => 0) ⟨#[], args, []⟩).memory :=
  laidMetH_of_parts3 (fuel := 8) (laidMet_of_run' 8 (by kernel_rfl) (by kernel_rfl)) (by kernel_rfl) (by kernel_rfl)
theorem laid_of {W : World} (h : laidMetH Tryz.prog laidTabs W) : Laid W := by
  rw [MakeChecks.laidMetH_plain _ _ _ (by kernel_rfl)] at h
  have h1 : Lib.TabIs Tryz.prog W "internal/strconv.uint64pow10" .u64 Lib.pow10Tab := Lib.tabIs_of_head gPow tPow (show Tryz.prog.underlying 183 = some (.array 20 105) by kernel_rfl) (show Tryz.prog.underlying 105 = some (.int .u64) by kernel_rfl) (by kernel_rfl) (by kernel_rfl) (laidMet.tail (laidMet.tail h))
  exact Lib.tabBelow_of_tabIs h1
theorem own : ownKnob Tryz.prog.godebug = none := by kernel_rfl
theorem laidOut : laidOutB Tryz.prog = true := by kernel_rfl
theorem u8_wf {n : Int} (h : (Lit.int .u8 n).wf = true) : 0 ≤ n ∧ n < 256 := by
  have := bounds_u8 h
  omega
def IsRow (w : World) (a : Option Addr) (len cap : Nat) (zs : List Int) : Prop :=
  (a = none ∧ len = 0 ∧ cap = 0 ∧ zs = []) ∨
  ∃ x, a = some x ∧ x.spot = none ∧ len ≤ cap ∧ cap ≤ maxLen ∧ zs.length = cap ∧ (∀ i, i < zs.length → w.cell? (x.add i) = some (.int .u8 (zs.getD i 0))) ∧ ∀ n ∈ zs, (Lit.int .u8 n).wf = true
/-- Bytes that come in, as the shadow's data. -/
theorem row_D {W : World} {a : Option Addr} {len cap : Nat} {zs : List Int} (h : IsRow W a len cap zs) : ∃ (d : D) (cs : Str) (pr : Nat → Nat), IsC d cs ∧ cs.length ≤ 9223372036854775807 ∧ (∀ b, W.heap.size ≤ b → pr b = 0) ∧ Rep (isoE pr) W (.slice a len cap) d := by
  rcases h with ⟨rfl, rfl, rfl, rfl⟩ | ⟨⟨blk, off, spot⟩, rfl, hsp, hl, hm, hz, hc, hw⟩
  · exact ⟨.nil, [], fun _ => 0, isC_nil, by simp, fun _ _ => rfl, .nil⟩
  · simp only at hsp
    subst hsp
    obtain ⟨cs, hcs⟩ : ∃ cs : Str, cs = (zs.take len).map fun z => u8 z.toNat := ⟨_, rfl⟩
    have hcl : cs.length = len := by rw [hcs, List.length_map, List.length_take]; omega
    have hmax : maxLen = 9223372036854775807 := by decide
    have hat : ∀ i (hi : i < len), W.cell? ⟨blk, off + i, none⟩ = some (.int .u8 ((cs.getD i 0).toNat : Int)) := by
      intro i hi
      have h1 := hc i (by omega)
      rw [add_eq] at h1
      have hzi : i < zs.length := by omega
      have hwf := u8_wf (hw zs[i] (List.getElem_mem hzi))
      have e1 : zs.getD i 0 = zs[i] := by simp [List.getD, hzi]
      have e2 : cs.getD i 0 = u8 zs[i].toNat := by
        rw [hcs]
        simp [List.getD, hi, hzi]
      rw [h1, e1, e2, u8_nat (by omega)]
      congr 2
      omega
    refine ⟨.sl 1 (cs.map byteD) .shut, cs, fun b => if b < W.heap.size then off + len else 0, isC_sl cs, by omega, fun b hb => if_neg (by omega), ?_⟩
    refine .sl blk off len cap 1 _ _ (fun i j => .int .u8 ((cs.getD i 0).toNat : Int)) (by simpa using hcl) hl hm trivial ?_ (fun _ _ _ _ => rfl) (fun i j hi hj => ?_) (fun i j hi hj => ?_)
    · intro d hd
      obtain ⟨b, _, rfl⟩ := List.mem_map.1 hd
      rfl
    · obtain rfl : j = 0 := by omega
      rw [Nat.mul_one, Nat.add_zero]
      refine ⟨hat i hi, ?_⟩
      have hlt : blk < W.heap.size := by
        have h1 := hat i hi
        unfold World.cell? at h1
        split at h1
        · rename_i e
          exact (Array.getElem?_eq_some_iff.1 e).1
        · cases h1
      show off + i < if blk < W.heap.size then off + len else 0
      rw [if_pos hlt]
      omega
    · obtain rfl : j = 0 := by omega
      have hic : i < cs.length := by omega
      have e1 : ((cs.map byteD).getD i .u).cells.getD 0 .u = .i .u8 ((cs.getD i 0).toNat : Int) := by simp [List.getD, hic, byteD, D.cells]
      rw [e1]
      exact .i _ _
theorem walk {W : World} (L : Laid W) {a : Option Addr} {len cap : Nat} {zs : List Int} (h : IsRow W a len cap zs) {v n : Int} (hv : 0 ≤ v ∧ v < 256) (hn : 0 ≤ n ∧ n < 256) :
    Calls Tryz.prog 3 #[.slice a len cap, .int .u8 v, .int .u8 n] W fun e w' => e = .returned (.bool true) ∧ Below W.heap.size W w' := by
  obtain ⟨d, cs, pr, hd, hl, hp, hr⟩ := row_D h
  obtain ⟨v', rfl⟩ := Int.eq_ofNat_of_zero_le hv.1
  obtain ⟨n', rfl⟩ := Int.eq_ofNat_of_zero_le hn.1
  have hf := back3 (W := W) L d cs hd hl v' n' (by omega) (by omega) pr W [.slice a len cap, .int .u8 (v' : Int), .int .u8 (n' : Int)] (Below.refl _ _) hp ⟨rfl, fun j hj => by
    match j, hj with
    | 0, _ => exact hr
    | 1, _ => exact .i _ _
    | 2, _ => exact .i _ _⟩
  refine Calls.mono hf ?_
  rintro e w' ⟨x, pr', rfl, hx, hb, _, _⟩
  cases hx
  exact ⟨rfl, hb⟩
set_option maxRecDepth 100000 in
theorem lifted (os : Os) (started : os.Started) (H : Type) (enc : TypeId × Value → H) :
    ReturnsInHanded {} Tryz.checked os 3 .any (fun w args => (Rows.moveBackSpec.pre enc Tryz.prog Tryz.f3 [] false w args ∧ laidMetH Tryz.prog laidTabs w) ∧ sizedMet enc Tryz.prog Tryz.f3 (OpenSpec.ofChange Rows.moveBackSpec) false w args)
      (Rows.moveBackSpec.post enc Tryz.prog Tryz.f3 false true false false) := by
  refine returnsInHanded_of_change_and (C := Tryz.checked) (X := fun w _ => laidMetH Tryz.prog laidTabs w) (fun _ _ _ hh h => h.of_heap hh) own started (by kernel_rfl) Tryz.func3
    (ChangeSpec.witness_shaped (enc := enc) (C := Tryz.checked) (os := os) (X := fun w _ => laidMetH Tryz.prog laidTabs w) false (World.doorLaid Tryz.prog 65 os) #[.slice none 0 0, .int .u8 0, .int .u8 0] 8 rfl (World.shaped_of_RefB (by kernel_rfl) (by kernel_rfl)) (by kernel_rfl) (by kernel_rfl) (by kernel_rfl) (door_met os _)) ?_
  intro W base args ds gs before hval0 hW hcnd hsz0 hL _
  have hval : ∀ (j : Nat) t v, Tryz.f3.params[j]? = some t → args[j]? = some v → Value.okWide Tryz.prog W .any base t v := hval0
  have hW' := hW
  obtain ⟨p, q, hA0, hV, rfl, hfz, hnd⟩ := hW
  have hA : DataW.TrodAll enc Tryz.prog W 0 (fun _ => true) true Tryz.f3.params.toList args.toList ds p := hA0
  rw [Tryz.params3] at hA hval
  obtain ⟨v0, vs0, d0, ds0, p0, q0, hargs, rfl, rfl, h0, r0⟩ := trodAll_cons hA
  obtain ⟨v1, vs1, d1, ds1, p1, q1, rfl, rfl, rfl, h1, r1⟩ := trodAll_cons r0
  obtain ⟨v2, vs2, d2, ds2, p2, q2, rfl, rfl, rfl, h2, r2⟩ := trodAll_cons r1
  obtain ⟨rfl, rfl, rfl⟩ := trodAll_nil r2
  obtain rfl : args = #[v0, v1, v2] := by cases args; simp_all
  obtain ⟨rfl, rfl⟩ := trodVars_none hV
  have hv0 := hval 0 22 v0 rfl rfl
  obtain ⟨a0, len0, cap0, rfl⟩ := okWide_slice (show Tryz.prog.underlying 22 = some (.slice 5) from und22) hv0
  have k0 := h0
  have lt0 : ∀ x ∈ p0, x.block < W.heap.size := by obtain ⟨m, hm⟩ := k0; exact DataW.trod_lt m _ _ _ hm
  obtain ⟨z0, w0⟩ : ∃ zs, IsRow W a0 len0 cap0 zs := by
    obtain ⟨fuel, hf⟩ := h0
    rcases open_ints (show Tryz.prog.underlying 22 = some (.slice 5) from und22) (show Tryz.prog.underlying 5 = some (.int .u8) by kernel_rfl) (by kernel_rfl) hf with ⟨hcs, _⟩ | ⟨x, l, c, zs, hcs, _, hl, hm, hz, _, hcell, hwz⟩
    · simp [Value.cells] at hcs
      obtain ⟨rfl, rfl, rfl⟩ := hcs
      exact ⟨[], .inl ⟨rfl, rfl, rfl, rfl⟩⟩
    · simp [Value.cells] at hcs
      obtain ⟨rfl, rfl, rfl⟩ := hcs
      have hsp : x.spot = none := by
        have hu : Tryz.prog.underlying 22 = some (.slice 5) := und22
        simp only [Value.okWide, hu, Cell.okWide, Cell.ok] at hv0
        exact hv0.2.2.2.1
      exact ⟨zs, .inr ⟨_, rfl, hsp, hl, hm, by simpa using hz, hcell, hwz⟩⟩
  obtain ⟨a1, rfl, rfl, rfl, w1⟩ := open_int (show Tryz.prog.underlying 5 = some (.int .u8) by kernel_rfl) (hval 1 5 v1 rfl rfl) h1
  obtain ⟨a2, rfl, rfl, rfl, w2⟩ := open_int (show Tryz.prog.underlying 5 = some (.int .u8) by kernel_rfl) (hval 2 5 v2 rfl rfl) h2
  have hG := laid_of hL
  clear hA0 hval0 hsz0
  refine (walk hG w0 (u8_wf w1) (u8_wf w2)).mono fun e W' ⟨he, bel⟩ => ?_
  subst he
  exact ⟨_, rfl, _, _, _, [], _, [], hW', trodAll_mk1 (shut_bool (show Tryz.prog.underlying 4 = some .bool by kernel_rfl) _), (trodAll_cons_mk (Below.trod laidOut (by kernel_rfl) (of_decide_eq_true (by kernel_rfl)) k0 bel lt0) (trodAll_cons_mk (shut_int (show Tryz.prog.underlying 5 = some (.int .u8) by kernel_rfl) w1) (trodAll_cons_mk (shut_int (show Tryz.prog.underlying 5 = some (.int .u8) by kernel_rfl) w2) trodAll_mk0))), rfl, bel.frame _, fun h => by cases h⟩
theorem row_holds : Rows.MoveBackSaid :=
  OpenClaim.holds_of_wide 3 Tryz.f3 rfl rfl rfl rfl rfl rfl rfl ⟨rfl, rfl, rfl, rfl, rfl⟩ rfl rfl rfl rfl rfl (by kernel_rfl) Tryz.func3 (by kernel_rfl)
    (of_decide_eq_true (by kernel_rfl)) (by unfold Func.isWrapper; first | (rw [if_pos (by decide +kernel)]; kernel_rfl) | (rw [if_neg (by decide +kernel)]; exact ⟨rfl, rfl⟩))
    (fun os started H enc _ => lifted os started H enc)
theorem proved : Rows.MoveBackCardSaid :=
  Claim7.holds_tied_plain_at .later [] [.data, .data, .data, .sentinel, .sentinel] true (true, "975459cc026586527acd60eb7d4dab23007df78dc928c32ca3cad4d298df60c9") true
    row_holds (fun _ h => by cases h) (by kernel_rfl) (fun _ h => by cases h) moveBack_row_tie rfl ⟨rfl, rfl⟩ (by kernel_rfl) rfl
    (fun f fn hf hfn => by
      obtain rfl : f = 3 := Option.some.inj ((show Tryz.prog.funcNamed "roadstead/roadsteadlaw16.MoveBack" = some 3 by kernel_rfl).symm.trans hf) |>.symm
      obtain rfl : fn = Tryz.f3 := (Option.some.inj (Tryz.func3.symm.trans hfn)).symm
      exact ⟨by kernel_rfl, fun j t ht => by
        rw [Tryz.params3] at ht
        have h3 : t = 5 ∨ t = 22 := by
          rcases j with _ | _ | _ | j
          · right; simpa using ht.symm
          · left; simpa using ht.symm
          · left; simpa using ht.symm
          · simp at ht
        rcases h3 with rfl | rfl
        · exact (show Tryz.prog.wantsStandIn 5 = false by kernel_rfl)
        · exact (show Tryz.prog.wantsStandIn 22 = false by kernel_rfl)⟩)
    (by kernel_rfl)
#print axioms proved
end Go.Proofs.YtobamidecbfgpaaGreatDoor.moveBack
namespace Go.Proofs.YtobamidecbfgpaaGreatDoor
/-- The card, under a short name, for the claim. -/
theorem moveBack_holds : Rows.MoveBackCardSaid := moveBack.proved
end Go.Proofs.YtobamidecbfgpaaGreatDoor
