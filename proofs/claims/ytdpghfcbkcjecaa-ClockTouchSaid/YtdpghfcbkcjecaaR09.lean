/-
  Chapter 9's seat: its functions are those of the texts.
-/
import Derived.Test.YtdpghfcbkcjecaaW09f
import Derived.Test.YtdpghfcbkcjecaaW09r
import Derived.Test.YtdpghfcbkcjecaaRows
import Derived.ProofKit
namespace Go.Proofs.Ytdpghfcbkcjecaa
open Go.ChangeShapes Go.WideShapes Go.ChangeAt Go.RowKit Lk Lk.C Lk.S09

def F09 (k : Nat) : Nat := [8, 9, 10, 11, 12, 13, 14, 15, 3, 4, 5, 6, 7, 16, 17, 18, 19, 20].getD k 0
theorem mixed : Try.prog.follows .mixedOrders = true := by kernel_rfl
theorem ownGod : ownKnob Try.prog.godebug = none := by kernel_rfl
theorem laidAll : laidOutB Try.prog = true := by kernel_rfl
theorem kClock : KClock Try.prog F09 where
  m := mixed
  right := by unfold clock_Right_k; kernel_rfl
  sweep := by unfold clock_Sweep_k; kernel_rfl
  touch := by unfold clock_Touch_k; kernel_rfl
  clone := by unfold sl_Clone_clock_Frame_k; kernel_rfl
  idx := by unfold sl_IndexFunc_clock_Frame_k; kernel_rfl
  cont := by unfold sl_ContainsFunc_clock_Frame_k; kernel_rfl
  loose := by unfold clock_Sweep_1_k; kernel_rfl
theorem kRef : KRef Try.prog F09 where
  m := mixed
  right := by unfold ref09_Right_k; kernel_rfl
  first := by unfold ref09_first_k; kernel_rfl
  sweep := by unfold ref09_Sweep_k; kernel_rfl
  same := by unfold ref09_Same_k; kernel_rfl
theorem kLaw : KLaw Try.prog F09 where
  ref := by unfold law09_ref_k; kernel_rfl
  awake := by unfold law09_awake_k; kernel_rfl
theorem shClk : shT Try.prog 4 24 = EClk.sh := by kernel_rfl
theorem agClk : isAggT Try.prog 24 = true := by kernel_rfl
theorem shInt : shT Try.prog 4 3 = [.int .i64] := by kernel_rfl
theorem agInt : isAggT Try.prog 3 = false := by kernel_rfl
end Go.Proofs.Ytdpghfcbkcjecaa
