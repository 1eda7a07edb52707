/-
  The seat of chapters 4 and 6: chapter 6's functions.
-/
import Derived.Test.YtaijfhomokkpeaaR04
import Derived.Test.YtaijfhomokkpeaaGs06b
set_option linter.unusedSimpArgs false
set_option maxHeartbeats 8000000
set_option maxRecDepth 100000
set_option linter.unusedVariables false
namespace Go.Proofs.Ytaijfhomokkpeaa
open Go.ChangeShapes Go.WideShapes Go.ChangeAt Go.RowKit Lk Lk.C Lk.S03 Lk.S04 Lk.S06
theorem kLn6 : S05.KLn Try.prog F04 where
  m := mixed
  new := by unfold lanes_New_k; kernel_rfl
  right := by unfold lanes_Right_k; kernel_rfl
  push := by unfold lanes_Push_k; kernel_rfl
  next := by unfold lanes_Next_k; kernel_rfl
  waits := by unfold lanes_waits_k; kernel_rfl
  waits1 := by unfold lanes_waits_1_k; kernel_rfl
  idx := by unfold sl_IndexFunc_lanes_Lane_k; kernel_rfl
  cont := by unfold sl_ContainsFunc_lanes_Lane_k; kernel_rfl
  cloneL := by unfold sl_Clone_lanes_Lane_k; kernel_rfl
  cloneI := by unfold sl_Clone_int_k; kernel_rfl
theorem kSd : KSd Try.prog F04 where
  d := kDev
  l := kLn6
  right := by unfold sched_Right_k; kernel_rfl
  cost := by unfold sched_cost_k; kernel_rfl
  request := by unfold sched_request_k; kernel_rfl
  new := by unfold sched_New_k; kernel_rfl
  ask := by unfold sched_Ask_k; kernel_rfl
  pump := by unfold sched_Pump_k; kernel_rfl
  done := by unfold sched_Done_k; kernel_rfl
  crash := by unfold sched_Crash_k; kernel_rfl
  cloneJ := by unfold sl_Clone_sched_Job_k; kernel_rfl
  cloneL := by unfold sl_Clone_Lsched_Job_k; kernel_rfl
  concat := by unfold sl_Concat_sched_Job_k; kernel_rfl
  grow := by unfold sl_Grow_sched_Job_k; kernel_rfl
theorem kLS : KLS Try.prog F04 where
  k := kSd
  new4 := by unfold law04_New_k; kernel_rfl
  awake := by unfold law06_awake_k; kernel_rfl
theorem shAcs : shT Try.prog 5 65 = [.sl EAc.sh] := by kernel_rfl
theorem agAcs : isAggT Try.prog 65 = false := by kernel_rfl
theorem shJs : shT Try.prog 5 70 = [.sl EJb.sh] := by kernel_rfl
theorem agJs : isAggT Try.prog 70 = false := by kernel_rfl
theorem sh6Ints : shT Try.prog 5 58 = [.sl [.int .i64]] := by kernel_rfl
theorem ag6Ints : isAggT Try.prog 58 = false := by kernel_rfl
theorem sh6U8 : shT Try.prog 5 5 = [.int .u8] := by kernel_rfl
theorem ag6U8 : isAggT Try.prog 5 = false := by kernel_rfl
end Go.Proofs.Ytaijfhomokkpeaa
