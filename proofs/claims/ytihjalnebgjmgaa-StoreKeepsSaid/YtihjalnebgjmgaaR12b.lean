/-
  The seat of chapters 12 and 13: chapter 12's statements.
-/
import Derived.Test.YtihjalnebgjmgaaR12
import Derived.Test.YtihjalnebgjmgaaGs12a
set_option linter.unusedSimpArgs false
set_option linter.unusedVariables false
namespace Go.Proofs.Ytihjalnebgjmgaa
open Go.ChangeShapes Go.WideShapes Go.ChangeAt Go.RowKit Lk Lk.C Lk.S03 Lk.S12
theorem k12 : K12 Try.prog F12 where
  j := kJ
  awake := by unfold law12_awake_k; kernel_rfl
theorem kR12 : KR12 Try.prog F12 where
  r := kRef
  may := by unfold ref12_May_k; kernel_rfl
  get := by unfold ref12_Get_k; kernel_rfl
  plan := by unfold ref12_Plan_k; kernel_rfl
  same := by unfold ref12_Same_k; kernel_rfl
  run := by unfold ref12_Run_k; kernel_rfl
  at_ := by unfold ref12_at_k; kernel_rfl
  filled := by unfold ref12_filled_k; kernel_rfl
end Go.Proofs.Ytihjalnebgjmgaa
