/-
  The seat of chapter 5: its functions are those of the texts.
-/
import Derived.Test.YtegfifeichfclaaGs05b
import Derived.Test.YtegfifeichfclaaRows
import Derived.ProofKit
set_option linter.unusedSimpArgs false
set_option linter.unusedVariables false
namespace Go.Proofs.Ytegfifeichfclaa
open Go.ChangeShapes Go.WideShapes Go.ChangeAt Go.RowKit Lk Lk.C Lk.S05
def F05 (k : Nat) : Nat := [0, 0, 0, 0, 0, 0, 0, 0, 0, 0, 0, 0, 0, 0, 0, 0, 0, 0, 0, 0, 0, 0, 0, 0, 0, 0, 0, 0, 0, 0, 0, 0, 0, 0, 0, 0, 0, 0, 0, 0, 0, 0, 0, 0, 0, 0, 0, 0, 0, 0, 0, 0, 0, 0, 0, 0, 0, 0, 0, 0, 0, 0, 0, 0, 0, 0, 0, 0, 0, 0, 0, 0, 0, 0, 0, 12, 16, 19, 20, 15, 10, 11, 13, 14, 3, 17, 18, 4, 5, 6, 7, 8, 9, 21, 22, 23, 0, 0, 0, 0, 0, 0, 0, 0, 0, 0, 0, 0, 0, 0, 0, 0, 0, 0, 0, 0, 0, 0, 0, 0, 0, 0, 0, 0, 0, 0, 0, 0, 0, 0, 0, 0, 0, 0, 0, 0, 0, 0, 0, 0, 0, 0, 0, 0, 24].getD k 0
theorem mixed : Try.prog.follows .mixedOrders = true := by kernel_rfl
theorem ownGod : ownKnob Try.prog.godebug = none := by kernel_rfl
theorem laidAll : laidOutB Try.prog = true := by kernel_rfl
theorem kLn : KLn Try.prog F05 where
  m := mixed
  new := by unfold lanes_New_k; kernel_rfl
  right := by unfold lanes_Right_k; kernel_rfl
  push := by unfold lanes_Push_k; kernel_rfl
  next := by unfold lanes_Next_k; kernel_rfl
  waits := by unfold lanes_waits_k; kernel_rfl
  waits1 := by unfold lanes_waits_1_k; kernel_rfl
  idx := by unfold sl_IndexFunc_lanes_Lane_k; kernel_rfl
  cont := by unfold sl_ContainsFunc_lanes_Lane_k; kernel_rfl
  cloneL := by unfold sl_Clone_lanes_Lane_k; kernel_rfl
  cloneI := by unfold sl_Clone_int_k; kernel_rfl
theorem k05 : K05 Try.prog F05 where
  k := kLn
  awake := by unfold law05_awake_k; kernel_rfl
theorem kFilled : law05_filled_k Try.prog F05 := by unfold law05_filled_k; kernel_rfl
theorem shInts : shT Try.prog 4 22 = [.sl [.int .i64]] := by kernel_rfl
theorem agInts : isAggT Try.prog 22 = false := by kernel_rfl
theorem shInt : shT Try.prog 4 3 = [.int .i64] := by kernel_rfl
theorem agInt : isAggT Try.prog 3 = false := by kernel_rfl
theorem shU8 : shT Try.prog 4 5 = [.int .u8] := by kernel_rfl
theorem agU8 : isAggT Try.prog 5 = false := by kernel_rfl
theorem shU8s : shT Try.prog 4 42 = [.sl [.int .u8]] := by kernel_rfl
theorem agU8s : isAggT Try.prog 42 = false := by kernel_rfl
theorem shU8ss : shT Try.prog 4 43 = [.sl [.sl [.int .u8]]] := by kernel_rfl
theorem agU8ss : isAggT Try.prog 43 = false := by kernel_rfl
theorem shBool : shT Try.prog 4 4 = [.bool] := by kernel_rfl
theorem agBool : isAggT Try.prog 4 = false := by kernel_rfl
end Go.Proofs.Ytegfifeichfclaa
