/-
  The seat of chapters 12 and 13: chapter 13's statements.
-/
import Derived.Test.YtihjalnebgjmgaaR12
import Derived.Test.YtihjalnebgjmgaaR12b
import Derived.Test.YtihjalnebgjmgaaGs13a
set_option linter.unusedSimpArgs false
set_option linter.unusedVariables false
namespace Go.Proofs.Ytihjalnebgjmgaa
open Go.ChangeShapes Go.WideShapes Go.ChangeAt Go.RowKit Lk Lk.C Lk.S03 Lk.S12 Lk.S13
theorem rep_eq (c : Nat) : Go.Lib.repeatL [(0 : UInt8)] c = List.replicate c 0 := by
  induction c with
  | zero => rfl
  | succ c ih => show [0] ++ Go.Lib.repeatL [0] c = _; rw [ih]; rfl
theorem kRepN (c : Nat) (hc : c ≤ 1000000) : FnOk Try.prog (F12 49) [.one (.str [0]), .one (.int .i64 c)] [.one (.im (.str (List.replicate c 0)))] := by
  have := Try.repeat_ok [0] c (by simp; omega) (by omega)
  rwa [rep_eq] at this
theorem kSum : S01.KSum Try.prog F12 where
  m := mixed
  sum := by unfold sum_Sum_k; kernel_rfl
  table := by unfold sum_Table_k; kernel_rfl
theorem kPage : S02.KPage Try.prog F12 where
  m := mixed
  sum := kSum
  right := by unfold page_Right_k; kernel_rfl
  put := by unfold page_Put_k; kernel_rfl
  take := by unfold page_Take_k; kernel_rfl
  four := by unfold page_four_k; kernel_rfl
  number := by unfold page_number_k; kernel_rfl
  rep := kRepN
theorem kPRef : S02.KRef Try.prog F12 where
  m := mixed
  sum := by unfold ref01_Sum_k; kernel_rfl
  right := by unfold ref02_Right_k; kernel_rfl
  put := by unfold ref02_Put_k; kernel_rfl
  take := by unfold ref02_Take_k; kernel_rfl
  four := by unfold ref02_four_k; kernel_rfl
  noughts := by unfold ref02_Noughts_k; kernel_rfl
theorem kS : KS Try.prog F12 where
  j := kJ
  p := kPage
  get := by unfold store_Get_k; kernel_rfl
  set := by unfold store_Set_k; kernel_rfl
  del := by unfold store_Del_k; kernel_rfl
  commit := by unfold store_commit_k; kernel_rfl
  steps := by unfold store_Steps_k; kernel_rfl
  list := by unfold store_List_k; kernel_rfl
  noughts := by unfold store_noughts_k; kernel_rfl
theorem k13 : K13 Try.prog F12 where
  s := kS
  awake := by unfold law13_awake_k; kernel_rfl
theorem kR13 : KR13 Try.prog F12 where
  r := kR12
  p := kPRef
  get := by unfold ref13_Get_k; kernel_rfl
  steps := by unfold ref13_Steps_k; kernel_rfl
  noughts := by unfold ref13_Noughts_k; kernel_rfl
theorem shPg : shT Try.prog 4 61 = S13.EPg.sh := by kernel_rfl
theorem agPg : isAggT Try.prog 61 = true := by kernel_rfl
theorem shPgs : shT Try.prog 4 72 = [.sl S13.EPg.sh] := by kernel_rfl
theorem agPgs : isAggT Try.prog 72 = false := by kernel_rfl
theorem shBool : shT Try.prog 4 4 = [.bool] := by kernel_rfl
theorem agBool : isAggT Try.prog 4 = false := by kernel_rfl
end Go.Proofs.Ytihjalnebgjmgaa
