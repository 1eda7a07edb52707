/-
  The seat of chapters 4 and 6: the shapes of chapter 4's parameters.
-/
import Derived.Test.YtaijfhomokkpeaaR04
import Derived.Test.YtaijfhomokkpeaaGs04c
set_option linter.unusedSimpArgs false
set_option linter.unusedVariables false
namespace Go.Proofs.Ytaijfhomokkpeaa
open Go.ChangeShapes Go.WideShapes Go.ChangeAt Go.RowKit Lk Lk.C Lk.S03 Lk.S04
theorem shDv : shT Try.prog 5 28 = EDv.sh := by kernel_rfl
theorem agDv : isAggT Try.prog 28 = true := by kernel_rfl
theorem shInt : shT Try.prog 5 3 = [.int .i64] := by kernel_rfl
theorem agInt : isAggT Try.prog 3 = false := by kernel_rfl
theorem shU8 : shT Try.prog 5 5 = [.int .u8] := by kernel_rfl
theorem agU8 : isAggT Try.prog 5 = false := by kernel_rfl
theorem shStr : shT Try.prog 5 9 = [.str] := by kernel_rfl
theorem agStr : isAggT Try.prog 9 = false := by kernel_rfl
theorem shBool : shT Try.prog 5 4 = [.bool] := by kernel_rfl
theorem agBool : isAggT Try.prog 4 = false := by kernel_rfl
theorem shInts : shT Try.prog 5 58 = [.sl [.int .i64]] := by kernel_rfl
theorem agInts : isAggT Try.prog 58 = false := by kernel_rfl
theorem shU2s : shT Try.prog 5 44 = [.sl EU2.sh] := by kernel_rfl
theorem agU2s : isAggT Try.prog 44 = false := by kernel_rfl
end Go.Proofs.Ytaijfhomokkpeaa
