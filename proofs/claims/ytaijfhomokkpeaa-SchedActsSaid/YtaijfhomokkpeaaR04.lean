/-
  The seat of chapters 4 and 6: its functions are those of chapter 4's texts.
-/
import Derived.Test.YtaijfhomokkpeaaGs04a
import Derived.Test.YtaijfhomokkpeaaX04a
import Derived.Test.YtaijfhomokkpeaaX04d
import Derived.Test.YtaijfhomokkpeaaRows
import Derived.ProofKit
set_option linter.unusedSimpArgs false
set_option maxHeartbeats 8000000
set_option maxRecDepth 100000
set_option linter.unusedVariables false
namespace Go.Proofs.Ytaijfhomokkpeaa
open Go.ChangeShapes Go.WideShapes Go.ChangeAt Go.RowKit Lk Lk.C Lk.S03 Lk.S04
def F04 (k : Nat) : Nat := [0, 0, 0, 0, 0, 0, 0, 0, 0, 0, 0, 0, 0, 0, 0, 0, 0, 0, 0, 0, 0, 0, 0, 0, 0, 0, 0, 0, 47, 0, 0, 41, 46, 40, 0, 0, 79, 49, 22, 0, 45, 52, 54, 25, 53, 0, 0, 0, 0, 76, 74, 75, 94, 78, 55, 86, 93, 0, 0, 0, 0, 0, 0, 0, 0, 0, 0, 0, 0, 0, 0, 0, 0, 0, 0, 56, 73, 80, 81, 58, 0, 0, 31, 71, 0, 0, 62, 0, 0, 0, 0, 0, 0, 82, 95, 96, 0, 0, 0, 0, 0, 0, 0, 0, 0, 0, 0, 0, 0, 0, 0, 0, 0, 0, 0, 0, 0, 0, 0, 0, 0, 0, 0, 0, 0, 0, 0, 0, 0, 0, 0, 0, 0, 0, 0, 0, 0, 0, 0, 0, 0, 0, 0, 0, 102, 18, 48, 50, 51, 21, 77, 83, 63, 0, 1, 2, 3, 4, 5, 6, 7, 8, 9, 10, 11, 12, 13, 14, 15, 16, 17, 19, 20, 23, 24, 26, 27, 28, 29, 30, 32, 33, 34, 35, 36, 37, 38, 39, 42, 43, 44, 57, 59, 60, 61, 64, 65, 66, 67, 68, 69, 70, 72, 84, 85, 87, 88, 89, 90, 91, 92, 97, 98, 99, 100, 101, 103, 104, 105, 106, 107, 108, 109, 110, 111, 112, 113, 114, 115, 116, 117, 118, 119, 120, 121].getD k 0
theorem mixed : Try.prog.follows .mixedOrders = true := by kernel_rfl
theorem ownGod : ownKnob Try.prog.godebug = none := by kernel_rfl
theorem laidAll : laidOutB Try.prog = true := by kernel_rfl
theorem kRep : FnOk Try.prog (F04 49) [.one (.str [0]), .one (.int .i64 16)] [.one (.im (.str (List.replicate 16 0)))] :=
  Try.repeat_ok [0] 16 (by decide) (by decide)
theorem kDisk : KDisk Try.prog F04 where
  m := mixed
  new := by unfold disk_New_k; kernel_rfl
  right := by unfold disk_Right_k; kernel_rfl
  fits := by unfold disk_fits_k; kernel_rfl
  put := by unfold disk_Put_k; kernel_rfl
  sync := by unfold disk_Sync_k; kernel_rfl
  crash := by unfold disk_Crash_k; kernel_rfl
  written := by unfold disk_written_k; kernel_rfl
  cloneW := by unfold sl_Clone_api_Write_k; kernel_rfl
  cloneS := by unfold sl_Clone_string_k; kernel_rfl
  rep := kRep
theorem kDev : KDev Try.prog F04 where
  k := kDisk
  rd d at_ S := Try.read_ok d at_ S.c (S03.right_ok (F := F04) kDisk.m kDisk.right kDisk.fits d S.s S.c S.ls S.lc)
  home := by unfold device_home_k; kernel_rfl
  request := by unfold device_request_k; kernel_rfl
  right := by unfold device_Right_k; kernel_rfl
  put := by unfold device_put_k; kernel_rfl
  submit := by unfold device_Submit_k; kernel_rfl
  finish := by unfold device_Finish_k; kernel_rfl
  crash := by unfold device_Crash_k; kernel_rfl
  clone := by unfold sl_Clone_device_Request_k; kernel_rfl
  concat := by unfold sl_Concat_device_Request_k; kernel_rfl
  grow := by unfold sl_Grow_device_Request_k; kernel_rfl
theorem kRef : KRef Try.prog F04 where
  m := mixed
  small := by unfold ref03_Small_k; kernel_rfl
  right := by unfold ref03_Right_k; kernel_rfl
  same := by unfold ref03_Same_k; kernel_rfl
  read := by unfold ref03_Read_k; kernel_rfl
  sync := by unfold ref03_Sync_k; kernel_rfl
theorem kRefC : KRefC Try.prog F04 where
  m := mixed
  in_ := by unfold ref03_in_k; kernel_rfl
  crash := by unfold ref03_Crash_k; kernel_rfl
theorem kRV : KRV Try.prog F04 where
  r := kRef
  rc := kRefC
  ref := by unfold law04_ref_k; kernel_rfl
  may := by unfold ref04_May_k; kernel_rfl
  right := by unfold ref04_Right_k; kernel_rfl
  submit := by unfold ref04_Submit_k; kernel_rfl
  finish := by unfold ref04_Finish_k; kernel_rfl
  same := by unfold ref04_Same_k; kernel_rfl
theorem kLV : KLV Try.prog F04 where
  k := kDev
  r := kRV
  new := by unfold law04_New_k; kernel_rfl
  awake := by unfold law04_awake_k; kernel_rfl
end Go.Proofs.Ytaijfhomokkpeaa
