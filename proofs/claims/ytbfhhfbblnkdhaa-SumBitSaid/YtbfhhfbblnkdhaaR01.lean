/-
  Chapter 1's seat: its functions are those of the texts.
-/
import Derived.Test.YtbfhhfbblnkdhaaW01b
import Derived.Test.YtbfhhfbblnkdhaaRows
import Derived.ProofKit
namespace Go.Proofs.Ytbfhhfbblnkdhaa
open Go.ChangeShapes Go.WideShapes Go.ChangeAt Go.RowKit Lk Lk.C Lk.S01

def F01 (k : Nat) : Nat := [0, 0, 0, 0, 0, 0, 0, 0, 0, 0, 0, 0, 0, 0, 0, 0, 0, 0, 8, 9, 10, 11, 12, 3, 4, 5, 6, 7].getD k 0
theorem mixed : Try.prog.follows .mixedOrders = true := by kernel_rfl
theorem ownGod : ownKnob Try.prog.godebug = none := by kernel_rfl
theorem laidAll : laidOutB Try.prog = true := by kernel_rfl
theorem kSum : KSum Try.prog F01 where
  m := mixed
  sum := by unfold sum_Sum_k; kernel_rfl
  table := by unfold sum_Table_k; kernel_rfl
theorem kAwake : law01_awake_k Try.prog F01 := by unfold law01_awake_k; kernel_rfl
theorem shStr : shT Try.prog 4 9 = [.str] := by kernel_rfl
theorem agStr : isAggT Try.prog 9 = false := by kernel_rfl
theorem shU8 : shT Try.prog 4 5 = [.int .u8] := by kernel_rfl
theorem agU8 : isAggT Try.prog 5 = false := by kernel_rfl
end Go.Proofs.Ytbfhhfbblnkdhaa
