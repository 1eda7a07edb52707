/-
  Chapter 3's seat: its functions are those of the texts.
-/
import Derived.Test.YtebbledmaegfpaaW03d
import Derived.Test.YtebbledmaegfpaaX03a
import Derived.Test.YtebbledmaegfpaaX03d
import Derived.Test.YtebbledmaegfpaaRows
import Derived.ProofKit
namespace Go.Proofs.Ytebbledmaegfpaa
open Go.ChangeShapes Go.WideShapes Go.ChangeAt Go.RowKit Lk Lk.C Lk.S03

def F03 (k : Nat) : Nat := [0, 0, 0, 0, 0, 0, 0, 0, 0, 0, 0, 0, 0, 0, 0, 0, 0, 0, 0, 0, 0, 0, 0, 0, 0, 0, 0, 0, 10, 11, 3, 12, 13, 14, 4, 15, 16, 17, 18, 5, 19, 20, 21, 22, 23, 6, 7, 8, 9, 24, 25, 26, 27, 28, 29, 36, 37].getD k 0
theorem mixed : Try.prog.follows .mixedOrders = true := by kernel_rfl
theorem ownGod : ownKnob Try.prog.godebug = none := by kernel_rfl
theorem laidAll : laidOutB Try.prog = true := by kernel_rfl
theorem kRep : FnOk Try.prog (F03 49) [.one (.str [0]), .one (.int .i64 16)] [.one (.im (.str (List.replicate 16 0)))] :=
  Try.repeat_ok [0] 16 (by decide) (by decide)
theorem kDisk : KDisk Try.prog F03 where
  m := mixed
  new := by unfold disk_New_k; kernel_rfl
  right := by unfold disk_Right_k; kernel_rfl
  fits := by unfold disk_fits_k; kernel_rfl
  put := by unfold disk_Put_k; kernel_rfl
  sync := by unfold disk_Sync_k; kernel_rfl
  crash := by unfold disk_Crash_k; kernel_rfl
  written := by unfold disk_written_k; kernel_rfl
  cloneW := by unfold sl_Clone_api_Write_k; kernel_rfl
  cloneS := by unfold sl_Clone_string_k; kernel_rfl
  rep := kRep
theorem kLaw : KLaw Try.prog F03 where
  k := kDisk
  awake := by unfold law03_awake_k; kernel_rfl
  rd d at_ S := Try.read_ok d at_ S.c (right_ok (F := F03) kDisk.m kDisk.right kDisk.fits d S.s S.c S.ls S.lc)
theorem shDsk : shT Try.prog 4 25 = EDsk.sh := by kernel_rfl
theorem agDsk : isAggT Try.prog 25 = true := by kernel_rfl
theorem shWr : shT Try.prog 4 35 = EWr.sh := by kernel_rfl
theorem agWr : isAggT Try.prog 35 = true := by kernel_rfl
theorem shInts : shT Try.prog 4 31 = [.sl [.int .i64]] := by kernel_rfl
theorem agInts : isAggT Try.prog 31 = false := by kernel_rfl
theorem shInt : shT Try.prog 4 3 = [.int .i64] := by kernel_rfl
theorem agInt : isAggT Try.prog 3 = false := by kernel_rfl
end Go.Proofs.Ytebbledmaegfpaa
