/-
  The seat of chapters 12 and 13: its functions are those of the texts.
-/
import Derived.Test.YtihjalnebgjmgaaGs12a
import Derived.Test.YtihjalnebgjmgaaX12a
import Derived.Test.YtihjalnebgjmgaaX12d
import Derived.Test.YtihjalnebgjmgaaRows
import Derived.ProofKit
set_option linter.unusedSimpArgs false
set_option linter.unusedVariables false
namespace Go.Proofs.Ytihjalnebgjmgaa
open Go.ChangeShapes Go.WideShapes Go.ChangeAt Go.RowKit Lk Lk.C Lk.S03 Lk.S12
def F12 (k : Nat) : Nat := [0, 0, 0, 0, 0, 0, 0, 0, 0, 0, 0, 0, 0, 0, 0, 0, 0, 0, 0, 86, 0, 85, 82, 0, 0, 0, 0, 0, 27, 0, 0, 15, 52, 32, 0, 0, 59, 51, 22, 0, 60, 44, 56, 0, 53, 0, 0, 0, 0, 57, 61, 76, 77, 69, 0, 78, 87, 0, 67, 41, 83, 62, 65, 0, 63, 0, 0, 80, 0, 0, 0, 0, 84, 79, 81, 0, 0, 0, 0, 0, 0, 0, 0, 0, 0, 0, 0, 0, 0, 0, 0, 0, 0, 0, 0, 0, 16, 17, 18, 19, 20, 21, 23, 25, 24, 26, 3, 28, 4, 29, 30, 31, 5, 6, 7, 33, 8, 45, 46, 47, 49, 48, 50, 54, 55, 58, 34, 35, 36, 37, 39, 38, 40, 42, 9, 43, 10, 11, 12, 13, 14, 64, 66, 68].getD k 0
theorem mixed : Try.prog.follows .mixedOrders = true := by kernel_rfl
theorem ownGod : ownKnob Try.prog.godebug = none := by kernel_rfl
theorem laidAll : laidOutB Try.prog = true := by kernel_rfl
theorem kRep : FnOk Try.prog (F12 49) [.one (.str [0]), .one (.int .i64 16)] [.one (.im (.str (List.replicate 16 0)))] :=
  Try.repeat_ok [0] 16 (by decide) (by decide)
theorem kDisk : KDisk Try.prog F12 where
  m := mixed
  new := by unfold disk_New_k; kernel_rfl
  right := by unfold disk_Right_k; kernel_rfl
  fits := by unfold disk_fits_k; kernel_rfl
  put := by unfold disk_Put_k; kernel_rfl
  sync := by unfold disk_Sync_k; kernel_rfl
  crash := by unfold disk_Crash_k; kernel_rfl
  written := by unfold disk_written_k; kernel_rfl
  cloneW := by unfold sl_Clone_api_Write_k; kernel_rfl
  cloneS := by unfold sl_Clone_string_k; kernel_rfl
  rep := kRep
theorem kJ : KJ Try.prog F12 where
  k := kDisk
  rd d at_ S := Try.read_ok d at_ S.c (right_ok (F := F12) kDisk.m kDisk.right kDisk.fits d S.s S.c S.ls S.lc)
  usable := by unfold journal_usable_k; kernel_rfl
  valid := by unfold journal_valid_k; kernel_rfl
  home := by unfold journal_home_k; kernel_rfl
  halves := by unfold journal_halves_k; kernel_rfl
  top := by unfold journal_top_k; kernel_rfl
  head := by unfold journal_head_k; kernel_rfl
  headed := by unfold journal_headed_k; kernel_rfl
  plan := by unfold journal_Plan_k; kernel_rfl
  repair := by unfold journal_Repair_k; kernel_rfl
  run := by unfold journal_Run_k; kernel_rfl
  commit := by unfold journal_Commit_k; kernel_rfl
  recover := by unfold journal_Recover_k; kernel_rfl
  get := by unfold journal_Get_k; kernel_rfl
theorem kRef : KRef Try.prog F12 where
  m := mixed
  small := by unfold ref03_Small_k; kernel_rfl
  right := by unfold ref03_Right_k; kernel_rfl
  same := by unfold ref03_Same_k; kernel_rfl
  read := by unfold ref03_Read_k; kernel_rfl
  sync := by unfold ref03_Sync_k; kernel_rfl
theorem shDsk : shT Try.prog 4 25 = EDsk.sh := by kernel_rfl
theorem agDsk : isAggT Try.prog 25 = true := by kernel_rfl
theorem shInt : shT Try.prog 4 3 = [.int .i64] := by kernel_rfl
theorem agInt : isAggT Try.prog 3 = false := by kernel_rfl
theorem shU8 : shT Try.prog 4 5 = [.int .u8] := by kernel_rfl
theorem agU8 : isAggT Try.prog 5 = false := by kernel_rfl
theorem shStr : shT Try.prog 4 9 = [.str] := by kernel_rfl
theorem agStr : isAggT Try.prog 9 = false := by kernel_rfl
theorem shStrs : shT Try.prog 4 22 = [.sl [.str]] := by kernel_rfl
theorem agStrs : isAggT Try.prog 22 = false := by kernel_rfl
theorem shInts : shT Try.prog 4 56 = [.sl [.int .i64]] := by kernel_rfl
theorem agInts : isAggT Try.prog 56 = false := by kernel_rfl
theorem shU8s : shT Try.prog 4 44 = [.sl [.int .u8]] := by kernel_rfl
theorem agU8s : isAggT Try.prog 44 = false := by kernel_rfl
end Go.Proofs.Ytihjalnebgjmgaa
