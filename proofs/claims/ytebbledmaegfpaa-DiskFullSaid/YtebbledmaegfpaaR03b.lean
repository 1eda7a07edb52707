/-
  Chapter 3's seat: the reference's functions.
-/
import Derived.Test.YtebbledmaegfpaaW03f
import Derived.Test.YtebbledmaegfpaaR03
namespace Go.Proofs.Ytebbledmaegfpaa
open Go.ChangeShapes Go.WideShapes Go.ChangeAt Go.RowKit Lk Lk.C Lk.S03

theorem kRef : KRef Try.prog F03 where
  m := mixed
  small := by unfold ref03_Small_k; kernel_rfl
  right := by unfold ref03_Right_k; kernel_rfl
  same := by unfold ref03_Same_k; kernel_rfl
  in_ := by unfold ref03_in_k; kernel_rfl
  read := by unfold ref03_Read_k; kernel_rfl
  sync := by unfold ref03_Sync_k; kernel_rfl
  crash := by unfold ref03_Crash_k; kernel_rfl
end Go.Proofs.Ytebbledmaegfpaa
