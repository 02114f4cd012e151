/- The types of this program that the shadow meets: sizes, zeros, fields. No condition. -/
import Derived.Test.YtobamidecbfgpaaGreatDoorShB
import Derived.KernelRfl
namespace Go.Proofs.YtobamidecbfgpaaGreatDoor
open Go Go.Sh Go.RowKit
set_option linter.unusedVariables false
noncomputable abbrev T : Program := Tryz.prog
theorem tsz3 : tsz T 3 = some 1 := by kernel_rfl
theorem tsz4 : tsz T 4 = some 1 := by kernel_rfl
theorem tsz5 : tsz T 5 = some 1 := by kernel_rfl
theorem tsz9 : tsz T 9 = some 1 := by kernel_rfl
theorem tsz22 : tsz T 22 = some 1 := by kernel_rfl
theorem tsz23 : tsz T 23 = some 1 := by kernel_rfl
theorem tsz30 : tsz T 30 = some 1 := by kernel_rfl
theorem tsz41 : tsz T 41 = some 1 := by kernel_rfl
theorem tsz42 : tsz T 42 = some 1 := by kernel_rfl
theorem tsz53 : tsz T 53 = some 1 := by kernel_rfl
theorem tsz58 : tsz T 58 = some 1 := by kernel_rfl
theorem tsz25 : tsz T 25 = some 4 := by kernel_rfl
theorem tsz28 : tsz T 28 = some 4 := by kernel_rfl
theorem tsz44 : tsz T 44 = some 10 := by kernel_rfl
theorem tsz60 : tsz T 60 = some 8 := by kernel_rfl
theorem tsz74 : tsz T 74 = some 2 := by kernel_rfl
theorem tsz115 : tsz T 115 = some 11 := by kernel_rfl
theorem tsz135 : tsz T 135 = some 3 := by kernel_rfl
theorem tsz139 : tsz T 139 = some 3 := by kernel_rfl
theorem tsz143 : tsz T 143 = some 3 := by kernel_rfl
theorem zero3 : zeroD T 3 = some (.i .i64 0) := by kernel_rfl
theorem zero4 : zeroD T 4 = some (.b false) := by kernel_rfl
theorem zero5 : zeroD T 5 = some (.i .u8 0) := by kernel_rfl
theorem zero9 : zeroD T 9 = some (.s []) := by kernel_rfl
theorem zero22 : zeroD T 22 = some (.nil) := by kernel_rfl
theorem zero41 : zeroD T 41 = some (.nil) := by kernel_rfl
theorem zero25 : zeroD T 25 = some (.ag [.i .i64 0, .i .i64 0, .i .i64 0, .nil]) := by kernel_rfl
theorem zero28 : zeroD T 28 = some (.ag [.i .i64 0, .i .i64 0, .i .i64 0, .b false]) := by kernel_rfl
theorem zero44 : zeroD T 44 = some (.ag [.i .i64 0, .s [], .s [], .s [], .i .i64 0, .i .i64 0, .i .i64 0, .nil, .nil, .s []]) := by kernel_rfl
theorem zero60 : zeroD T 60 = some (.ag [.i .i64 0, .s [], .s [], .i .i64 0, .i .i64 0, .b false, .s [], .i .i64 0]) := by kernel_rfl
theorem zero74 : zeroD T 74 = some (.ag [.s [], .nil]) := by kernel_rfl
theorem zero115 : zeroD T 115 = some (.ag [.i .i64 0, .s [], .s [], .s [], .i .i64 0, .i .i64 0, .i .i64 0, .nil, .nil, .s [], .nil]) := by kernel_rfl
theorem zero135 : zeroD T 135 = some (.ag [.nil, .i .i64 0, .b false]) := by kernel_rfl
theorem zero139 : zeroD T 139 = some (.ag [.nil, .i .i64 0, .b false]) := by kernel_rfl
theorem zero143 : zeroD T 143 = some (.ag [.nil, .i .i64 0, .b false]) := by kernel_rfl
theorem places25 : tplaces T 25 = some [(0, 1), (1, 1), (2, 1), (3, 1)] := by kernel_rfl
theorem places28 : tplaces T 28 = some [(0, 1), (1, 1), (2, 1), (3, 1)] := by kernel_rfl
theorem places44 : tplaces T 44 = some [(0, 1), (1, 1), (2, 1), (3, 1), (4, 1), (5, 1), (6, 1), (7, 1), (8, 1), (9, 1)] := by kernel_rfl
theorem places60 : tplaces T 60 = some [(0, 1), (1, 1), (2, 1), (3, 1), (4, 1), (5, 1), (6, 1), (7, 1)] := by kernel_rfl
theorem places74 : tplaces T 74 = some [(0, 1), (1, 1)] := by kernel_rfl
theorem places135 : tplaces T 135 = some [(0, 1), (1, 1), (2, 1)] := by kernel_rfl
theorem places139 : tplaces T 139 = some [(0, 1), (1, 1), (2, 1)] := by kernel_rfl
theorem places143 : tplaces T 143 = some [(0, 1), (1, 1), (2, 1)] := by kernel_rfl
theorem places115 : tplaces T 115 = some [(0, 10), (10, 1)] := by kernel_rfl
theorem tby3 : tby T 3 = some 8 := by kernel_rfl
theorem tby5 : tby T 5 = some 1 := by kernel_rfl
theorem tby9 : tby T 9 = some 16 := by kernel_rfl
theorem tby44 : tby T 44 = some 144 := by kernel_rfl
theorem tby60 : tby T 60 = some 88 := by kernel_rfl
theorem tby74 : tby T 74 = some 40 := by kernel_rfl
theorem fp25 (k g o : Nat) : fieldD T 25 (.p k g o) 0 = some (.p k g (o + 0)) ∧ fieldD T 25 (.p k g o) 1 = some (.p k g (o + 1)) ∧ fieldD T 25 (.p k g o) 2 = some (.p k g (o + 2)) ∧ fieldD T 25 (.p k g o) 3 = some (.p k g (o + 3)) := by
  refine ⟨?_, ?_, ?_, ?_⟩ <;> kernel_rfl
theorem fr25 (cs : List D) : fieldD T 25 (.rp (.ag cs)) 0 = (if 0 < cs.length ∧ (cs.getD 0 .u).isAg = false then some (cs.getD 0 .u) else none).map .rp ∧ fieldD T 25 (.rp (.ag cs)) 1 = (if 1 < cs.length ∧ (cs.getD 1 .u).isAg = false then some (cs.getD 1 .u) else none).map .rp ∧ fieldD T 25 (.rp (.ag cs)) 2 = (if 2 < cs.length ∧ (cs.getD 2 .u).isAg = false then some (cs.getD 2 .u) else none).map .rp ∧ fieldD T 25 (.rp (.ag cs)) 3 = (if 3 < cs.length ∧ (cs.getD 3 .u).isAg = false then some (cs.getD 3 .u) else none).map .rp := by
  refine ⟨?_, ?_, ?_, ?_⟩ <;> kernel_rfl
theorem fp28 (k g o : Nat) : fieldD T 28 (.p k g o) 0 = some (.p k g (o + 0)) ∧ fieldD T 28 (.p k g o) 1 = some (.p k g (o + 1)) ∧ fieldD T 28 (.p k g o) 2 = some (.p k g (o + 2)) ∧ fieldD T 28 (.p k g o) 3 = some (.p k g (o + 3)) := by
  refine ⟨?_, ?_, ?_, ?_⟩ <;> kernel_rfl
theorem fr28 (cs : List D) : fieldD T 28 (.rp (.ag cs)) 0 = (if 0 < cs.length ∧ (cs.getD 0 .u).isAg = false then some (cs.getD 0 .u) else none).map .rp ∧ fieldD T 28 (.rp (.ag cs)) 1 = (if 1 < cs.length ∧ (cs.getD 1 .u).isAg = false then some (cs.getD 1 .u) else none).map .rp ∧ fieldD T 28 (.rp (.ag cs)) 2 = (if 2 < cs.length ∧ (cs.getD 2 .u).isAg = false then some (cs.getD 2 .u) else none).map .rp ∧ fieldD T 28 (.rp (.ag cs)) 3 = (if 3 < cs.length ∧ (cs.getD 3 .u).isAg = false then some (cs.getD 3 .u) else none).map .rp := by
  refine ⟨?_, ?_, ?_, ?_⟩ <;> kernel_rfl
theorem fp44 (k g o : Nat) : fieldD T 44 (.p k g o) 0 = some (.p k g (o + 0)) ∧ fieldD T 44 (.p k g o) 1 = some (.p k g (o + 1)) ∧ fieldD T 44 (.p k g o) 2 = some (.p k g (o + 2)) ∧ fieldD T 44 (.p k g o) 3 = some (.p k g (o + 3)) ∧ fieldD T 44 (.p k g o) 4 = some (.p k g (o + 4)) ∧ fieldD T 44 (.p k g o) 5 = some (.p k g (o + 5)) ∧ fieldD T 44 (.p k g o) 6 = some (.p k g (o + 6)) ∧ fieldD T 44 (.p k g o) 7 = some (.p k g (o + 7)) ∧ fieldD T 44 (.p k g o) 8 = some (.p k g (o + 8)) ∧ fieldD T 44 (.p k g o) 9 = some (.p k g (o + 9)) := by
  refine ⟨?_, ?_, ?_, ?_, ?_, ?_, ?_, ?_, ?_, ?_⟩ <;> kernel_rfl
theorem fr44 (cs : List D) : fieldD T 44 (.rp (.ag cs)) 0 = (if 0 < cs.length ∧ (cs.getD 0 .u).isAg = false then some (cs.getD 0 .u) else none).map .rp ∧ fieldD T 44 (.rp (.ag cs)) 1 = (if 1 < cs.length ∧ (cs.getD 1 .u).isAg = false then some (cs.getD 1 .u) else none).map .rp ∧ fieldD T 44 (.rp (.ag cs)) 2 = (if 2 < cs.length ∧ (cs.getD 2 .u).isAg = false then some (cs.getD 2 .u) else none).map .rp ∧ fieldD T 44 (.rp (.ag cs)) 3 = (if 3 < cs.length ∧ (cs.getD 3 .u).isAg = false then some (cs.getD 3 .u) else none).map .rp ∧ fieldD T 44 (.rp (.ag cs)) 4 = (if 4 < cs.length ∧ (cs.getD 4 .u).isAg = false then some (cs.getD 4 .u) else none).map .rp ∧ fieldD T 44 (.rp (.ag cs)) 5 = (if 5 < cs.length ∧ (cs.getD 5 .u).isAg = false then some (cs.getD 5 .u) else none).map .rp ∧ fieldD T 44 (.rp (.ag cs)) 6 = (if 6 < cs.length ∧ (cs.getD 6 .u).isAg = false then some (cs.getD 6 .u) else none).map .rp ∧ fieldD T 44 (.rp (.ag cs)) 7 = (if 7 < cs.length ∧ (cs.getD 7 .u).isAg = false then some (cs.getD 7 .u) else none).map .rp ∧ fieldD T 44 (.rp (.ag cs)) 8 = (if 8 < cs.length ∧ (cs.getD 8 .u).isAg = false then some (cs.getD 8 .u) else none).map .rp ∧ fieldD T 44 (.rp (.ag cs)) 9 = (if 9 < cs.length ∧ (cs.getD 9 .u).isAg = false then some (cs.getD 9 .u) else none).map .rp := by
  refine ⟨?_, ?_, ?_, ?_, ?_, ?_, ?_, ?_, ?_, ?_⟩ <;> kernel_rfl
theorem fp60 (k g o : Nat) : fieldD T 60 (.p k g o) 0 = some (.p k g (o + 0)) ∧ fieldD T 60 (.p k g o) 1 = some (.p k g (o + 1)) ∧ fieldD T 60 (.p k g o) 2 = some (.p k g (o + 2)) ∧ fieldD T 60 (.p k g o) 3 = some (.p k g (o + 3)) ∧ fieldD T 60 (.p k g o) 4 = some (.p k g (o + 4)) ∧ fieldD T 60 (.p k g o) 5 = some (.p k g (o + 5)) ∧ fieldD T 60 (.p k g o) 6 = some (.p k g (o + 6)) ∧ fieldD T 60 (.p k g o) 7 = some (.p k g (o + 7)) := by
  refine ⟨?_, ?_, ?_, ?_, ?_, ?_, ?_, ?_⟩ <;> kernel_rfl
theorem fr60 (cs : List D) : fieldD T 60 (.rp (.ag cs)) 0 = (if 0 < cs.length ∧ (cs.getD 0 .u).isAg = false then some (cs.getD 0 .u) else none).map .rp ∧ fieldD T 60 (.rp (.ag cs)) 1 = (if 1 < cs.length ∧ (cs.getD 1 .u).isAg = false then some (cs.getD 1 .u) else none).map .rp ∧ fieldD T 60 (.rp (.ag cs)) 2 = (if 2 < cs.length ∧ (cs.getD 2 .u).isAg = false then some (cs.getD 2 .u) else none).map .rp ∧ fieldD T 60 (.rp (.ag cs)) 3 = (if 3 < cs.length ∧ (cs.getD 3 .u).isAg = false then some (cs.getD 3 .u) else none).map .rp ∧ fieldD T 60 (.rp (.ag cs)) 4 = (if 4 < cs.length ∧ (cs.getD 4 .u).isAg = false then some (cs.getD 4 .u) else none).map .rp ∧ fieldD T 60 (.rp (.ag cs)) 5 = (if 5 < cs.length ∧ (cs.getD 5 .u).isAg = false then some (cs.getD 5 .u) else none).map .rp ∧ fieldD T 60 (.rp (.ag cs)) 6 = (if 6 < cs.length ∧ (cs.getD 6 .u).isAg = false then some (cs.getD 6 .u) else none).map .rp ∧ fieldD T 60 (.rp (.ag cs)) 7 = (if 7 < cs.length ∧ (cs.getD 7 .u).isAg = false then some (cs.getD 7 .u) else none).map .rp := by
  refine ⟨?_, ?_, ?_, ?_, ?_, ?_, ?_, ?_⟩ <;> kernel_rfl
theorem fp74 (k g o : Nat) : fieldD T 74 (.p k g o) 0 = some (.p k g (o + 0)) ∧ fieldD T 74 (.p k g o) 1 = some (.p k g (o + 1)) := by
  refine ⟨?_, ?_⟩ <;> kernel_rfl
theorem fr74 (cs : List D) : fieldD T 74 (.rp (.ag cs)) 0 = (if 0 < cs.length ∧ (cs.getD 0 .u).isAg = false then some (cs.getD 0 .u) else none).map .rp ∧ fieldD T 74 (.rp (.ag cs)) 1 = (if 1 < cs.length ∧ (cs.getD 1 .u).isAg = false then some (cs.getD 1 .u) else none).map .rp := by
  refine ⟨?_, ?_⟩ <;> kernel_rfl
theorem fp135 (k g o : Nat) : fieldD T 135 (.p k g o) 0 = some (.p k g (o + 0)) ∧ fieldD T 135 (.p k g o) 1 = some (.p k g (o + 1)) ∧ fieldD T 135 (.p k g o) 2 = some (.p k g (o + 2)) := by
  refine ⟨?_, ?_, ?_⟩ <;> kernel_rfl
theorem fr135 (cs : List D) : fieldD T 135 (.rp (.ag cs)) 0 = (if 0 < cs.length ∧ (cs.getD 0 .u).isAg = false then some (cs.getD 0 .u) else none).map .rp ∧ fieldD T 135 (.rp (.ag cs)) 1 = (if 1 < cs.length ∧ (cs.getD 1 .u).isAg = false then some (cs.getD 1 .u) else none).map .rp ∧ fieldD T 135 (.rp (.ag cs)) 2 = (if 2 < cs.length ∧ (cs.getD 2 .u).isAg = false then some (cs.getD 2 .u) else none).map .rp := by
  refine ⟨?_, ?_, ?_⟩ <;> kernel_rfl
theorem fp139 (k g o : Nat) : fieldD T 139 (.p k g o) 0 = some (.p k g (o + 0)) ∧ fieldD T 139 (.p k g o) 1 = some (.p k g (o + 1)) ∧ fieldD T 139 (.p k g o) 2 = some (.p k g (o + 2)) := by
  refine ⟨?_, ?_, ?_⟩ <;> kernel_rfl
theorem fr139 (cs : List D) : fieldD T 139 (.rp (.ag cs)) 0 = (if 0 < cs.length ∧ (cs.getD 0 .u).isAg = false then some (cs.getD 0 .u) else none).map .rp ∧ fieldD T 139 (.rp (.ag cs)) 1 = (if 1 < cs.length ∧ (cs.getD 1 .u).isAg = false then some (cs.getD 1 .u) else none).map .rp ∧ fieldD T 139 (.rp (.ag cs)) 2 = (if 2 < cs.length ∧ (cs.getD 2 .u).isAg = false then some (cs.getD 2 .u) else none).map .rp := by
  refine ⟨?_, ?_, ?_⟩ <;> kernel_rfl
theorem fp143 (k g o : Nat) : fieldD T 143 (.p k g o) 0 = some (.p k g (o + 0)) ∧ fieldD T 143 (.p k g o) 1 = some (.p k g (o + 1)) ∧ fieldD T 143 (.p k g o) 2 = some (.p k g (o + 2)) := by
  refine ⟨?_, ?_, ?_⟩ <;> kernel_rfl
theorem fr143 (cs : List D) : fieldD T 143 (.rp (.ag cs)) 0 = (if 0 < cs.length ∧ (cs.getD 0 .u).isAg = false then some (cs.getD 0 .u) else none).map .rp ∧ fieldD T 143 (.rp (.ag cs)) 1 = (if 1 < cs.length ∧ (cs.getD 1 .u).isAg = false then some (cs.getD 1 .u) else none).map .rp ∧ fieldD T 143 (.rp (.ag cs)) 2 = (if 2 < cs.length ∧ (cs.getD 2 .u).isAg = false then some (cs.getD 2 .u) else none).map .rp := by
  refine ⟨?_, ?_, ?_⟩ <;> kernel_rfl
theorem fp115 (k g o : Nat) : fieldD T 115 (.p k g o) 0 = some (.p k g (o + 0)) ∧ fieldD T 115 (.p k g o) 1 = some (.p k g (o + 10)) := by
  refine ⟨?_, ?_⟩ <;> kernel_rfl
theorem hmix : T.follows .mixedOrders = true := by kernel_rfl
end Go.Proofs.YtobamidecbfgpaaGreatDoor
