/-
  Chapter 2's seat: its functions are those of the texts.
-/
import Derived.Test.YtbjlbloncjfbhaaW02e
import Derived.Test.YtbjlbloncjfbhaaX02a
import Derived.Test.YtbjlbloncjfbhaaRows
import Derived.ProofKit
namespace Go.Proofs.Ytbjlbloncjfbhaa
open Go.ChangeShapes Go.WideShapes Go.ChangeAt Go.RowKit Lk Lk.C Lk.S01 Lk.S02

def F02 (k : Nat) : Nat := [0, 0, 0, 0, 0, 0, 0, 0, 0, 0, 0, 0, 0, 0, 0, 0, 0, 0, 0, 21, 0, 20, 24, 0, 0, 0, 0, 0, 0, 0, 0, 0, 0, 0, 0, 0, 0, 0, 0, 0, 0, 0, 0, 0, 0, 0, 0, 0, 0, 19, 0, 0, 0, 0, 0, 0, 0, 10, 11, 12, 13, 14, 15, 3, 16, 4, 5, 17, 6, 7, 8, 9, 18, 22, 23].getD k 0
theorem mixed : Try.prog.follows .mixedOrders = true := by kernel_rfl
theorem ownGod : ownKnob Try.prog.godebug = none := by kernel_rfl
theorem laidAll : laidOutB Try.prog = true := by kernel_rfl
theorem rep_eq (c : Nat) : Go.Lib.repeatL [(0 : UInt8)] c = List.replicate c 0 := by
  induction c with
  | zero => rfl
  | succ c ih => show [0] ++ Go.Lib.repeatL [0] c = _; rw [ih]; rfl
theorem kRep (c : Nat) (hc : c ≤ 1000000) : FnOk Try.prog (F02 49) [.one (.str [0]), .one (.int .i64 c)] [.one (.im (.str (List.replicate c 0)))] := by
  have := Try.repeat_ok [0] c (by simp; omega) (by omega)
  rwa [rep_eq] at this
theorem kSum : KSum Try.prog F02 where
  m := mixed
  sum := by unfold sum_Sum_k; kernel_rfl
  table := by unfold sum_Table_k; kernel_rfl
theorem kPage : KPage Try.prog F02 where
  m := mixed
  sum := kSum
  right := by unfold page_Right_k; kernel_rfl
  put := by unfold page_Put_k; kernel_rfl
  take := by unfold page_Take_k; kernel_rfl
  four := by unfold page_four_k; kernel_rfl
  number := by unfold page_number_k; kernel_rfl
  rep := kRep
theorem kRef : KRef Try.prog F02 where
  m := mixed
  sum := by unfold ref01_Sum_k; kernel_rfl
  right := by unfold ref02_Right_k; kernel_rfl
  put := by unfold ref02_Put_k; kernel_rfl
  take := by unfold ref02_Take_k; kernel_rfl
  four := by unfold ref02_four_k; kernel_rfl
  noughts := by unfold ref02_Noughts_k; kernel_rfl
theorem kLaw : KLaw Try.prog F02 where
  k := kPage
  r := kRef
  awake := by unfold law02_awake_k; kernel_rfl
theorem shStr : shT Try.prog 4 9 = [.str] := by kernel_rfl
theorem agStr : isAggT Try.prog 9 = false := by kernel_rfl
end Go.Proofs.Ytbjlbloncjfbhaa
