/- ShaRounds: the law's walk. -/
import Derived.Test.YtocjjojjkcilbaaDoorKnown
import Derived.Test.YtocjjojjkcilbaaDoorRBeginx1
import Derived.Test.YtocjjojjkcilbaaDoorRblockx1
import Derived.Deep.RegionHeld3
namespace Go.Proofs.YtocjjojjkcilbaaDoor
open Go.RowKit Go.Proofs.YtocjjojjkcilbaaDoorW.PrintWords Go.Proofs.YtocjjojjkcilbaaDoorW.PrintLast Go.Proofs.YtocjjojjkcilbaaDoorW.PrintMore
set_option linter.unusedVariables false
theorem round_pure (i : Int) : Rblock.roadsteadref03_Round.f i = some (roundI i) := by
  unfold Rblock.roadsteadref03_Round.f roundI
  by_cases h0 : i < 0
  · rw [if_pos h0, if_neg (by omega)]
  · rw [if_neg h0]
    by_cases h1 : i > 63
    · rw [if_pos h1, if_neg (by omega)]
    · rw [if_neg h1, if_pos (by omega), Option.bind_some, if_pos (by omega), if_pos (by simp; omega)]
      rfl
theorem begin_pure (i : Int) : RBegin.roadsteadref03_Begin.f i = some (beginI i) := by
  unfold RBegin.roadsteadref03_Begin.f beginI
  by_cases h0 : i < 0
  · rw [if_pos h0, if_neg (by omega)]
  · rw [if_neg h0]
    by_cases h1 : i > 7
    · rw [if_pos h1, if_neg (by omega)]
    · rw [if_neg h1, if_pos (by omega), Option.bind_some, if_pos (by omega), if_pos (by simp; omega)]
      rfl
set_option maxHeartbeats 1000000 in
theorem shaRounds.walk (i k : Int) (w : World) (hG : Glob w) : Calls Tryd.prog 4 #[.int .i64 i, .int .u8 k] w fun e w' => e = .returned (.bool true) ∧ Below w.heap.size w w' := by
  have HG := Aside0.mk hG
  have HB0 := Aside0.mk (Below.refl w.heap.size w)
  clear hG
  go_enter Tryd.func4, Tryd.ntmps4
  go_wp2_with fail
  refine (known.calls _ (HG.out.below HB0.out)).mono ?_
  rintro e w1 ⟨rfl, hd⟩
  have HB1 := Aside0.mk (below_step HB0.out hd)
  clear HB0 hd
  go_wp2_with fail
  refine (sha_Round.calls _ _ (HG.out.below HB1.out)).mono ?_
  rintro e w2 ⟨rfl, hd⟩
  have HB2 := Aside0.mk (below_step HB1.out hd.below)
  clear HB1 hd
  go_wp2_with fail
  refine (Rblock.roadsteadref03_Round.calls _ _ _ (round_pure _)).mono ?_
  rintro e w3 ⟨rfl, hd⟩
  have HB3 := Aside0.mk (below_step HB2.out hd)
  clear HB2 hd
  go_wp2_with fail
  refine (sha_Begin.calls _ _ (HG.out.below HB3.out)).mono ?_
  rintro e w4 ⟨rfl, hd⟩
  have HB4 := Aside0.mk (below_step HB3.out hd.below)
  clear HB3 hd
  go_wp2_with fail
  refine (RBegin.roadsteadref03_Begin.calls _ _ _ (begin_pure _)).mono ?_
  rintro e w5 ⟨rfl, hd⟩
  have HB5 := Aside0.mk (below_step HB4.out hd)
  clear HB4 hd
  go_wp2_with fail
  refine (sha_Round.calls _ _ (HG.out.below HB5.out)).mono ?_
  rintro e w6 ⟨rfl, hd⟩
  have HB6 := Aside0.mk (below_step HB5.out hd.below)
  clear HB5 hd
  go_wp2_with fail
  refine (Rblock.roadsteadref03_Round.calls _ _ _ (round_pure _)).mono ?_
  rintro e w7 ⟨rfl, hd⟩
  have HB7 := Aside0.mk (below_step HB6.out hd)
  clear HB6 hd
  go_wp2_with fail
  refine (sha_Begin.calls _ _ (HG.out.below HB7.out)).mono ?_
  rintro e w8 ⟨rfl, hd⟩
  have HB8 := Aside0.mk (below_step HB7.out hd.below)
  clear HB7 hd
  go_wp2_with fail
  refine (RBegin.roadsteadref03_Begin.calls _ _ _ (begin_pure _)).mono ?_
  rintro e w9 ⟨rfl, hd⟩
  have HB9 := Aside0.mk (below_step HB8.out hd)
  clear HB8 hd
  go_wp2
  go_ret
  exact ⟨by first | rfl | simp, HB9.out⟩
end Go.Proofs.YtocjjojjkcilbaaDoor
