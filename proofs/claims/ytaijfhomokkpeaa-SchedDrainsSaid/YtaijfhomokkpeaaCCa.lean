/-
  CCa: what these chapters need.
-/
import Derived.Test.YtaijfhomokkpeaaLkC
set_option linter.unusedSimpArgs false
set_option linter.unusedVariables false
namespace Lk.C
open Go Lk
def law06_SchedDrains_r0 : List AOper := [
  ⟨some 2, .val (.mov (.k (.bool false))), none⟩]
def law06_SchedDrains_r1 (F : Nat → Nat) : List AOper := [
  ⟨some 16, .call (F 172) [], none⟩,
  ⟨some 17, .buildS 1 2 [.int .i64 0] [(0, (.k (.int .i64 2))), (1, (.k (.int .i64 1)))], none⟩,
  ⟨some 18, .call (F 175) [(.t 16), (.t 17)], none⟩,
  ⟨some 15, .val (.mov (.t 18)), none⟩,
  ⟨some 19, .val (.extr 0 (.t 15)), none⟩,
  ⟨some 20, .val (.extr 1 (.t 15)), none⟩,
  ⟨some 3, .alloc 9 [.nil 3, .int .i64 0, .bool false, .nil 1, .nil 1, .nil 2, .int .i64 0, .nil 4, .nil 5], none⟩,
  ⟨none, .stA true 9 (.t 3) (.t 19), none⟩,
  ⟨some 4, .val (.mov (.t 20)), none⟩]
def law06_SchedDrains_r2 : List AOper := [
  ⟨some 21, .val (.mov (.t 4)), none⟩,
  ⟨some 22, .val (.bin .neq false (.t 21) (.k (.int .i64 0))), none⟩,
  ⟨some 23, .val (.mov (.t 22)), none⟩,
  ⟨some 24, .val (.mov (.t 0)), some (23, false)⟩,
  ⟨some 25, .val (.lenS (.t 24)), some (23, false)⟩,
  ⟨some 26, .val (.bin .gtr false (.t 25) (.k (.int .i64 60))), some (23, false)⟩,
  ⟨some 27, .val (.por (.t 23) (.t 26)), none⟩]
def law06_SchedDrains_r3 (F : Nat → Nat) : List AOper := [
  ⟨some 28, .val (.mov (.t 4)), none⟩,
  ⟨some 29, .val (.bin .eql false (.t 28) (.k (.int .i64 0))), none⟩,
  ⟨some 30, .val (.mov (.t 29)), none⟩,
  ⟨some 31, .call (F 176) [], some (30, true)⟩,
  ⟨some 32, .val (.pand (.t 30) (.t 31)), none⟩,
  ⟨some 2, .val (.mov (.t 32)), none⟩]
def law06_SchedDrains_r4 : List AOper := [
  ⟨some 5, .allocR 2 1 [.nil 5], none⟩]
def law06_SchedDrains_r5 : List AOper := [
  ⟨some 33, .val (.mov (.t 0)), none⟩,
  ⟨some 34, .val (.lenS (.t 33)), none⟩,
  ⟨some 35, .val (.mov (.k (.int .i64 0))), none⟩]
def law06_SchedDrains_r6 : List AOper := [
  ⟨some 36, .val (.bin .lss false (.t 35) (.t 34)), none⟩]
def law06_SchedDrains_r7 : List AOper := [
  ⟨some 37, .val (.ixS 5 (.t 33) (.t 35)), none⟩,
  ⟨some 38, .val (.loadA 5 (.t 37)), none⟩,
  ⟨some 7, .alloc 5 [.int .i64 0, .int .i64 0, .int .i64 0, .str [], .int .i64 0], none⟩,
  ⟨none, .stA true 5 (.t 7) (.t 38), none⟩]
def law06_SchedDrains_r8 (F : Nat → Nat) : List AOper := [
  ⟨some 40, .val (.loadA 9 (.t 3)), none⟩,
  ⟨some 41, .val (.loadA 5 (.t 7)), none⟩,
  ⟨some 42, .call (F 177) [(.t 40), (.t 41)], none⟩,
  ⟨some 39, .val (.mov (.t 42)), none⟩,
  ⟨some 43, .val (.extr 0 (.t 39)), none⟩,
  ⟨some 44, .val (.extr 1 (.t 39)), none⟩,
  ⟨some 8, .alloc 9 [.nil 3, .int .i64 0, .bool false, .nil 1, .nil 1, .nil 2, .int .i64 0, .nil 4, .nil 5], none⟩,
  ⟨none, .stA true 9 (.t 8) (.t 43), none⟩,
  ⟨some 9, .val (.mov (.t 44)), none⟩]
def law06_SchedDrains_r9 : List AOper := [
  ⟨some 45, .val (.mov (.t 9)), none⟩,
  ⟨some 46, .val (.bin .eql false (.t 45) (.k (.int .i64 0))), none⟩,
  ⟨some 47, .val (.mov (.t 46)), none⟩,
  ⟨some 48, .val (.field 0 (.t 7)), some (47, true)⟩,
  ⟨some 49, .val (.load1 (.t 48)), some (47, true)⟩,
  ⟨some 50, .val (.bin .geq false (.t 49) (.k (.int .i64 0))), some (47, true)⟩,
  ⟨some 51, .val (.pand (.t 47) (.t 50)), none⟩,
  ⟨some 52, .val (.mov (.t 51)), none⟩,
  ⟨some 53, .val (.field 0 (.t 7)), some (52, true)⟩,
  ⟨some 54, .val (.load1 (.t 53)), some (52, true)⟩,
  ⟨some 55, .val (.bin .lss false (.t 54) (.k (.int .i64 2))), some (52, true)⟩,
  ⟨some 56, .val (.pand (.t 52) (.t 55)), none⟩]
def law06_SchedDrains_r10 : List AOper := [
  ⟨some 57, .val (.field 0 (.t 7)), none⟩,
  ⟨some 58, .val (.load1 (.t 57)), none⟩,
  ⟨some 59, .val (.field 0 (.t 7)), none⟩,
  ⟨some 60, .val (.load1 (.t 59)), none⟩,
  ⟨some 61, .val (.ixA 1 2 (.t 5) (.t 60)), none⟩,
  ⟨some 62, .val (.load1 (.t 61)), none⟩,
  ⟨some 63, .val (.loadA 5 (.t 7)), none⟩,
  ⟨some 64, .buildS 5 1 [.int .i64 0, .int .i64 0, .int .i64 0, .str [], .int .i64 0] [(0, (.t 63))], none⟩,
  ⟨some 65, .app 5 48 (.t 62) (.t 64), none⟩,
  ⟨some 66, .val (.ixA 1 2 (.t 5) (.t 58)), none⟩,
  ⟨none, .st1 true (.t 66) (.t 65), none⟩]
def law06_SchedDrains_r11 : List AOper := [
  ⟨some 67, .val (.loadA 9 (.t 8)), none⟩,
  ⟨none, .stA true 9 (.t 3) (.t 67), none⟩]
def law06_SchedDrains_r12 : List AOper := [
  ⟨some 68, .val (.bin .add true (.t 35) (.k (.int .i64 1))), none⟩,
  ⟨some 35, .val (.mov (.t 68)), none⟩]
def law06_SchedDrains_r13 : List AOper := [
  ⟨some 69, .val (.ixA 1 2 (.t 5) (.k (.int .i64 0))), none⟩,
  ⟨some 70, .val (.load1 (.t 69)), none⟩,
  ⟨some 71, .val (.lenS (.t 70)), none⟩,
  ⟨some 72, .val (.ixA 1 2 (.t 5) (.k (.int .i64 1))), none⟩,
  ⟨some 73, .val (.load1 (.t 72)), none⟩,
  ⟨some 74, .val (.lenS (.t 73)), none⟩,
  ⟨some 75, .val (.bin .add true (.t 71) (.t 74)), none⟩,
  ⟨some 10, .val (.mov (.t 75)), none⟩]
def law06_SchedDrains_r14 : List AOper := [
  ⟨some 76, .val (.mov (.t 10)), none⟩,
  ⟨some 77, .val (.mov (.k (.int .i64 0))), none⟩]
def law06_SchedDrains_r15 : List AOper := [
  ⟨some 78, .val (.bin .lss false (.t 77) (.t 76)), none⟩]
def law06_SchedDrains_r16 (F : Nat → Nat) : List AOper := [
  ⟨some 79, .val (.loadA 9 (.t 3)), none⟩,
  ⟨some 80, .call (F 178) [(.t 79)], none⟩,
  ⟨none, .stA true 9 (.t 3) (.t 80), none⟩]
def law06_SchedDrains_r17 (F : Nat → Nat) : List AOper := [
  ⟨some 82, .val (.loadA 9 (.t 3)), none⟩,
  ⟨some 83, .call (F 179) [(.t 82), (.k (.int .i64 0)), (.k (.bool false))], none⟩,
  ⟨some 81, .val (.mov (.t 83)), none⟩,
  ⟨some 84, .val (.extr 0 (.t 81)), none⟩,
  ⟨some 85, .val (.extr 1 (.t 81)), none⟩,
  ⟨some 86, .val (.extr 2 (.t 81)), none⟩,
  ⟨some 87, .val (.extr 3 (.t 81)), none⟩,
  ⟨some 11, .alloc 9 [.nil 3, .int .i64 0, .bool false, .nil 1, .nil 1, .nil 2, .int .i64 0, .nil 4, .nil 5], none⟩,
  ⟨some 12, .alloc 5 [.int .i64 0, .int .i64 0, .int .i64 0, .str [], .int .i64 0], none⟩,
  ⟨none, .stA true 9 (.t 11) (.t 84), none⟩,
  ⟨none, .stA true 5 (.t 12) (.t 85), none⟩,
  ⟨some 13, .val (.mov (.t 86)), none⟩,
  ⟨some 14, .val (.mov (.t 87)), none⟩]
def law06_SchedDrains_r18 : List AOper := [
  ⟨some 88, .val (.mov (.t 13)), none⟩,
  ⟨some 89, .val (.bin .neq false (.t 88) (.k (.int .i64 0))), none⟩,
  ⟨some 90, .val (.mov (.t 89)), none⟩,
  ⟨some 91, .val (.mov (.t 14)), some (90, false)⟩,
  ⟨some 92, .val (.not (.t 91)), some (90, false)⟩,
  ⟨some 93, .val (.por (.t 90) (.t 92)), none⟩,
  ⟨some 94, .val (.mov (.t 93)), none⟩,
  ⟨some 95, .val (.field 0 (.t 12)), some (94, false)⟩,
  ⟨some 96, .val (.load1 (.t 95)), some (94, false)⟩,
  ⟨some 97, .val (.bin .lss false (.t 96) (.k (.int .i64 0))), some (94, false)⟩,
  ⟨some 98, .val (.por (.t 94) (.t 97)), none⟩,
  ⟨some 99, .val (.mov (.t 98)), none⟩,
  ⟨some 100, .val (.field 0 (.t 12)), some (99, false)⟩,
  ⟨some 101, .val (.load1 (.t 100)), some (99, false)⟩,
  ⟨some 102, .val (.bin .gtr false (.t 101) (.k (.int .i64 1))), some (99, false)⟩,
  ⟨some 103, .val (.por (.t 99) (.t 102)), none⟩,
  ⟨some 104, .val (.mov (.t 103)), none⟩,
  ⟨some 105, .val (.field 0 (.t 12)), some (104, false)⟩,
  ⟨some 106, .val (.load1 (.t 105)), some (104, false)⟩,
  ⟨some 107, .val (.ixA 1 2 (.t 5) (.t 106)), some (104, false)⟩,
  ⟨some 108, .val (.load1 (.t 107)), some (104, false)⟩,
  ⟨some 109, .val (.lenS (.t 108)), some (104, false)⟩,
  ⟨some 110, .val (.bin .eql false (.t 109) (.k (.int .i64 0))), some (104, false)⟩,
  ⟨some 111, .val (.por (.t 104) (.t 110)), none⟩,
  ⟨some 112, .val (.mov (.t 111)), none⟩,
  ⟨some 113, .val (.field 0 (.t 12)), some (112, false)⟩,
  ⟨some 114, .val (.load1 (.t 113)), some (112, false)⟩,
  ⟨some 115, .val (.ixA 1 2 (.t 5) (.t 114)), some (112, false)⟩,
  ⟨some 116, .val (.load1 (.t 115)), some (112, false)⟩,
  ⟨some 117, .val (.ixS 5 (.t 116) (.k (.int .i64 0))), some (112, false)⟩,
  ⟨some 118, .val (.field 1 (.t 117)), some (112, false)⟩,
  ⟨some 119, .val (.load1 (.t 118)), some (112, false)⟩,
  ⟨some 120, .val (.field 1 (.t 12)), some (112, false)⟩,
  ⟨some 121, .val (.load1 (.t 120)), some (112, false)⟩,
  ⟨some 122, .val (.bin .neq false (.t 119) (.t 121)), some (112, false)⟩,
  ⟨some 123, .val (.por (.t 112) (.t 122)), none⟩,
  ⟨some 124, .val (.mov (.t 123)), none⟩,
  ⟨some 125, .val (.field 0 (.t 12)), some (124, false)⟩,
  ⟨some 126, .val (.load1 (.t 125)), some (124, false)⟩,
  ⟨some 127, .val (.ixA 1 2 (.t 5) (.t 126)), some (124, false)⟩,
  ⟨some 128, .val (.load1 (.t 127)), some (124, false)⟩,
  ⟨some 129, .val (.ixS 5 (.t 128) (.k (.int .i64 0))), some (124, false)⟩,
  ⟨some 130, .val (.field 2 (.t 129)), some (124, false)⟩,
  ⟨some 131, .val (.load1 (.t 130)), some (124, false)⟩,
  ⟨some 132, .val (.field 2 (.t 12)), some (124, false)⟩,
  ⟨some 133, .val (.load1 (.t 132)), some (124, false)⟩,
  ⟨some 134, .val (.bin .neq false (.t 131) (.t 133)), some (124, false)⟩,
  ⟨some 135, .val (.por (.t 124) (.t 134)), none⟩]
def law06_SchedDrains_r19 : List AOper := [
  ⟨some 2, .val (.mov (.k (.bool false))), none⟩]
def law06_SchedDrains_r20 : List AOper := [
  ⟨some 136, .val (.field 0 (.t 12)), none⟩,
  ⟨some 137, .val (.load1 (.t 136)), none⟩,
  ⟨some 138, .val (.field 0 (.t 12)), none⟩,
  ⟨some 139, .val (.load1 (.t 138)), none⟩,
  ⟨some 140, .val (.ixA 1 2 (.t 5) (.t 139)), none⟩,
  ⟨some 141, .val (.load1 (.t 140)), none⟩,
  ⟨some 142, .val (.slS 5 (.t 141) (some (.k (.int .i64 1))) none), none⟩,
  ⟨some 143, .val (.ixA 1 2 (.t 5) (.t 137)), none⟩,
  ⟨none, .st1 true (.t 143) (.t 142), none⟩]
def law06_SchedDrains_r21 : List AOper := [
  ⟨some 144, .val (.loadA 9 (.t 11)), none⟩,
  ⟨none, .stA true 9 (.t 3) (.t 144), none⟩]
def law06_SchedDrains_r22 : List AOper := [
  ⟨some 145, .val (.bin .add true (.t 77) (.k (.int .i64 1))), none⟩,
  ⟨some 77, .val (.mov (.t 145)), none⟩]
def law06_SchedDrains_r23 (F : Nat → Nat) : List AOper := [
  ⟨some 146, .val (.loadA 9 (.t 3)), none⟩,
  ⟨some 147, .call (F 178) [(.t 146)], none⟩,
  ⟨none, .stA true 9 (.t 3) (.t 147), none⟩]
def law06_SchedDrains_r24 (F : Nat → Nat) : List AOper := [
  ⟨some 148, .val (.field 8 (.t 3)), none⟩,
  ⟨some 149, .val (.load1 (.t 148)), none⟩,
  ⟨some 150, .val (.lenS (.t 149)), none⟩,
  ⟨some 151, .val (.bin .eql false (.t 150) (.k (.int .i64 0))), none⟩,
  ⟨some 152, .val (.mov (.t 151)), none⟩,
  ⟨some 153, .call (F 176) [], some (152, true)⟩,
  ⟨some 154, .val (.pand (.t 152) (.t 153)), none⟩,
  ⟨some 2, .val (.mov (.t 154)), none⟩]
def sched_New_r0 : List AOper := [
  ⟨some 2, .box 4 (.t 0), none⟩,
  ⟨some 4, .alloc 9 [.nil 3, .int .i64 0, .bool false, .nil 1, .nil 1, .nil 2, .int .i64 0, .nil 4, .nil 5], none⟩,
  ⟨some 5, .val (.mov (.k (.int .i64 0))), none⟩]
def sched_New_r1 (F : Nat → Nat) : List AOper := [
  ⟨some 8, .val (.loadA 4 (.t 2)), none⟩,
  ⟨some 9, .call (F 145) [(.t 8)], none⟩,
  ⟨some 10, .val (.not (.t 9)), none⟩,
  ⟨some 11, .val (.mov (.t 10)), none⟩,
  ⟨some 12, .val (.field 3 (.t 2)), some (11, false)⟩,
  ⟨some 13, .val (.load1 (.t 12)), some (11, false)⟩,
  ⟨some 14, .val (.lenS (.t 13)), some (11, false)⟩,
  ⟨some 15, .val (.bin .gtr false (.t 14) (.k (.int .i64 0))), some (11, false)⟩,
  ⟨some 16, .val (.por (.t 11) (.t 15)), none⟩]
def sched_New_r2 : List AOper := [
  ⟨some 17, .val (.build 9 [.nil 3, .int .i64 0, .bool false, .nil 1, .nil 1, .nil 2, .int .i64 0, .nil 4, .nil 5] []), none⟩,
  ⟨none, .stA true 9 (.t 4) (.t 17), none⟩,
  ⟨some 5, .val (.mov (.k (.int .i64 1))), none⟩]
def sched_New_r3 (F : Nat → Nat) : List AOper := [
  ⟨some 19, .val (.mov (.t 1)), none⟩,
  ⟨some 20, .call (F 75) [(.t 19)], none⟩,
  ⟨some 18, .val (.mov (.t 20)), none⟩,
  ⟨some 21, .val (.extr 0 (.t 18)), none⟩,
  ⟨some 22, .val (.extr 1 (.t 18)), none⟩,
  ⟨some 6, .alloc 3 [.nil 3, .int .i64 0, .bool false], none⟩,
  ⟨none, .stA true 3 (.t 6) (.t 21), none⟩,
  ⟨some 7, .val (.mov (.t 22)), none⟩]
def sched_New_r4 : List AOper := [
  ⟨some 23, .val (.mov (.t 7)), none⟩,
  ⟨some 24, .val (.bin .neq false (.t 23) (.k (.int .i64 0))), none⟩]
def sched_New_r5 : List AOper := [
  ⟨some 25, .val (.build 9 [.nil 3, .int .i64 0, .bool false, .nil 1, .nil 1, .nil 2, .int .i64 0, .nil 4, .nil 5] []), none⟩,
  ⟨some 26, .val (.mov (.t 7)), none⟩,
  ⟨none, .stA true 9 (.t 4) (.t 25), none⟩,
  ⟨some 5, .val (.mov (.t 26)), none⟩]
def sched_New_r6 : List AOper := [
  ⟨some 27, .val (.loadA 3 (.t 6)), none⟩,
  ⟨some 28, .val (.mov (.t 1)), none⟩,
  ⟨some 29, .val (.lenS (.t 28)), none⟩,
  ⟨some 30, .mk 1 24 [.nil 5] (.t 29), none⟩,
  ⟨some 31, .val (.loadA 4 (.t 2)), none⟩,
  ⟨some 32, .val (.build 9 [.nil 3, .int .i64 0, .bool false, .nil 1, .nil 1, .nil 2, .int .i64 0, .nil 4, .nil 5] [(0, 3, (.t 27)), (3, 1, (.t 30)), (4, 4, (.t 31))]), none⟩,
  ⟨none, .stA true 9 (.t 4) (.t 32), none⟩,
  ⟨some 5, .val (.mov (.k (.int .i64 0))), none⟩]
def sched_New_c (F : Nat → Nat) : ACode :=
  (.seq
    (.reg sched_New_r0 (some ([1, 2, 4], [2, 4, 30])))
    (.seq
      (.seq
        (.reg (sched_New_r1 F) (some ([1, 2, 4, 16], [2, 4, 30])))
        (.cond (.t 16)
          (.seq
            (.reg sched_New_r2 (some ([4, 5], [4, 30])))
            .ret)
          .skip))
      (.seq
        (.reg (sched_New_r3 F) (some ([1, 2, 4, 6, 7], [2, 4, 6, 30])))
        (.seq
          (.seq
            (.reg sched_New_r4 (some ([1, 2, 4, 6, 7, 24], [2, 4, 6, 30])))
            (.cond (.t 24)
              (.seq
                (.reg sched_New_r5 (some ([4, 5], [4, 30])))
                .ret)
              .skip))
          (.seq
            (.regD sched_New_r6 [(0, 3), (3, 4)] (some ([4, 5], [4, 30])))
            .ret)))))
def sched_New_k (P : Program) (F : Nat → Nat) : Prop := chkFn P (F 175) 2 (sched_New_c F) [.loadA 9 (.t 4), 5] = true
def law06_awake_r0 : List AOper := [
  ⟨some 0, .val (.mov (.k (.bool false))), none⟩]
def law06_awake_r1 (F : Nat → Nat) : List AOper := [
  ⟨some 13, .call (F 172) [], none⟩,
  ⟨some 14, .buildS 1 2 [.int .i64 0] [(0, (.k (.int .i64 1))), (1, (.k (.int .i64 2)))], none⟩,
  ⟨some 15, .call (F 175) [(.t 13), (.t 14)], none⟩,
  ⟨some 12, .val (.mov (.t 15)), none⟩,
  ⟨some 16, .val (.extr 0 (.t 12)), none⟩,
  ⟨some 17, .val (.extr 1 (.t 12)), none⟩,
  ⟨some 1, .alloc 9 [.nil 3, .int .i64 0, .bool false, .nil 1, .nil 1, .nil 2, .int .i64 0, .nil 4, .nil 5], none⟩,
  ⟨none, .stA true 9 (.t 1) (.t 16), none⟩,
  ⟨some 2, .val (.mov (.t 17)), none⟩]
def law06_awake_r2 (F : Nat → Nat) : List AOper := [
  ⟨some 19, .val (.loadA 9 (.t 1)), none⟩,
  ⟨some 20, .val (.build 5 [.int .i64 0, .int .i64 0, .int .i64 0, .str [], .int .i64 0] [(0, 1, (.k (.int .i64 1))), (1, 1, (.k (.int .i64 1))), (2, 1, (.k (.int .i64 3)))]), none⟩,
  ⟨some 21, .call (F 177) [(.t 19), (.t 20)], none⟩,
  ⟨some 18, .val (.mov (.t 21)), none⟩,
  ⟨some 22, .val (.extr 0 (.t 18)), none⟩,
  ⟨some 23, .val (.extr 1 (.t 18)), none⟩,
  ⟨none, .stA true 9 (.t 1) (.t 22), none⟩,
  ⟨some 3, .val (.mov (.t 23)), none⟩]
def law06_awake_r3 (F : Nat → Nat) : List AOper := [
  ⟨some 24, .val (.loadA 9 (.t 1)), none⟩,
  ⟨some 25, .call (F 178) [(.t 24)], none⟩,
  ⟨none, .stA true 9 (.t 1) (.t 25), none⟩]
def law06_awake_r4 (F : Nat → Nat) : List AOper := [
  ⟨some 27, .val (.loadA 9 (.t 1)), none⟩,
  ⟨some 28, .call (F 179) [(.t 27), (.k (.int .i64 0)), (.k (.bool true))], none⟩,
  ⟨some 26, .val (.mov (.t 28)), none⟩,
  ⟨some 29, .val (.extr 0 (.t 26)), none⟩,
  ⟨some 30, .val (.extr 1 (.t 26)), none⟩,
  ⟨some 31, .val (.extr 2 (.t 26)), none⟩,
  ⟨some 32, .val (.extr 3 (.t 26)), none⟩,
  ⟨some 4, .alloc 9 [.nil 3, .int .i64 0, .bool false, .nil 1, .nil 1, .nil 2, .int .i64 0, .nil 4, .nil 5], none⟩,
  ⟨some 5, .alloc 5 [.int .i64 0, .int .i64 0, .int .i64 0, .str [], .int .i64 0], none⟩,
  ⟨none, .stA true 9 (.t 4) (.t 29), none⟩,
  ⟨none, .stA true 5 (.t 5) (.t 30), none⟩,
  ⟨some 6, .val (.mov (.t 31)), none⟩,
  ⟨some 7, .val (.mov (.t 32)), none⟩]
def law06_awake_r5 (F : Nat → Nat) : List AOper := [
  ⟨some 34, .val (.loadA 9 (.t 4)), none⟩,
  ⟨some 35, .call (F 179) [(.t 34), (.k (.int .i64 0)), (.k (.bool false))], none⟩,
  ⟨some 33, .val (.mov (.t 35)), none⟩,
  ⟨some 36, .val (.extr 0 (.t 33)), none⟩,
  ⟨some 37, .val (.extr 1 (.t 33)), none⟩,
  ⟨some 38, .val (.extr 2 (.t 33)), none⟩,
  ⟨some 39, .val (.extr 3 (.t 33)), none⟩,
  ⟨some 8, .alloc 9 [.nil 3, .int .i64 0, .bool false, .nil 1, .nil 1, .nil 2, .int .i64 0, .nil 4, .nil 5], none⟩,
  ⟨some 9, .alloc 5 [.int .i64 0, .int .i64 0, .int .i64 0, .str [], .int .i64 0], none⟩,
  ⟨none, .stA true 9 (.t 8) (.t 36), none⟩,
  ⟨none, .stA true 5 (.t 9) (.t 37), none⟩,
  ⟨some 10, .val (.mov (.t 38)), none⟩,
  ⟨some 11, .val (.mov (.t 39)), none⟩]
def law06_awake_r6 (F : Nat → Nat) : List AOper := [
  ⟨some 40, .val (.mov (.t 2)), none⟩,
  ⟨some 41, .val (.bin .eql false (.t 40) (.k (.int .i64 0))), none⟩,
  ⟨some 42, .val (.mov (.t 41)), none⟩,
  ⟨some 43, .val (.mov (.t 3)), some (42, true)⟩,
  ⟨some 44, .val (.bin .eql false (.t 43) (.k (.int .i64 0))), some (42, true)⟩,
  ⟨some 45, .val (.pand (.t 42) (.t 44)), none⟩,
  ⟨some 46, .val (.mov (.t 45)), none⟩,
  ⟨some 47, .val (.field 8 (.t 1)), some (46, true)⟩,
  ⟨some 48, .val (.load1 (.t 47)), some (46, true)⟩,
  ⟨some 49, .val (.lenS (.t 48)), some (46, true)⟩,
  ⟨some 50, .val (.bin .eql false (.t 49) (.k (.int .i64 1))), some (46, true)⟩,
  ⟨some 51, .val (.pand (.t 46) (.t 50)), none⟩,
  ⟨some 52, .val (.mov (.t 51)), none⟩,
  ⟨some 53, .val (.mov (.t 7)), some (52, true)⟩,
  ⟨some 54, .val (.not (.t 53)), some (52, true)⟩,
  ⟨some 55, .val (.pand (.t 52) (.t 54)), none⟩,
  ⟨some 56, .val (.mov (.t 55)), none⟩,
  ⟨some 57, .val (.field 8 (.t 4)), some (56, true)⟩,
  ⟨some 58, .val (.load1 (.t 57)), some (56, true)⟩,
  ⟨some 59, .val (.lenS (.t 58)), some (56, true)⟩,
  ⟨some 60, .val (.bin .eql false (.t 59) (.k (.int .i64 1))), some (56, true)⟩,
  ⟨some 61, .val (.pand (.t 56) (.t 60)), none⟩,
  ⟨some 62, .val (.mov (.t 61)), none⟩,
  ⟨some 63, .val (.field 0 (.t 9)), some (62, true)⟩,
  ⟨some 64, .val (.load1 (.t 63)), some (62, true)⟩,
  ⟨some 65, .val (.bin .eql false (.t 64) (.k (.int .i64 1))), some (62, true)⟩,
  ⟨some 66, .val (.pand (.t 62) (.t 65)), none⟩,
  ⟨some 67, .val (.mov (.t 66)), none⟩,
  ⟨some 68, .val (.field 4 (.t 9)), some (67, true)⟩,
  ⟨some 69, .val (.load1 (.t 68)), some (67, true)⟩,
  ⟨some 70, .val (.bin .eql false (.t 69) (.k (.int .i64 2))), some (67, true)⟩,
  ⟨some 71, .val (.pand (.t 67) (.t 70)), none⟩,
  ⟨some 72, .val (.mov (.t 71)), none⟩,
  ⟨some 73, .val (.field 3 (.t 9)), some (72, true)⟩,
  ⟨some 74, .val (.load1 (.t 73)), some (72, true)⟩,
  ⟨some 75, .val (.lenT (.t 74)), some (72, true)⟩,
  ⟨some 76, .val (.bin .eql false (.t 75) (.k (.int .i64 32))), some (72, true)⟩,
  ⟨some 77, .val (.pand (.t 72) (.t 76)), none⟩,
  ⟨some 78, .val (.mov (.t 77)), none⟩,
  ⟨some 79, .val (.mov (.t 10)), some (78, true)⟩,
  ⟨some 80, .val (.bin .eql false (.t 79) (.k (.int .i64 0))), some (78, true)⟩,
  ⟨some 81, .val (.pand (.t 78) (.t 80)), none⟩,
  ⟨some 82, .val (.mov (.t 81)), none⟩,
  ⟨some 83, .val (.mov (.t 11)), some (82, true)⟩,
  ⟨some 84, .val (.pand (.t 82) (.t 83)), none⟩,
  ⟨some 85, .val (.mov (.t 84)), none⟩,
  ⟨some 86, .val (.loadA 9 (.t 1)), some (85, true)⟩,
  ⟨some 87, .call (F 187) [(.t 86)], some (85, true)⟩,
  ⟨some 88, .val (.pand (.t 85) (.t 87)), none⟩,
  ⟨some 0, .val (.mov (.t 88)), none⟩]
def law06_awake_c (F : Nat → Nat) : ACode :=
  (.seq
    (.reg law06_awake_r0 (some ([], [14])))
    (.seq
      (.reg (law06_awake_r1 F) (some ([1, 2], [1, 14])))
      (.seq
        (.reg (law06_awake_r2 F) (some ([1, 2, 3], [1, 14])))
        (.seq
          (.reg (law06_awake_r3 F) (some ([1, 2, 3], [1, 14])))
          (.seq
            (.reg (law06_awake_r4 F) (some ([1, 2, 3, 4, 7], [1, 4, 14])))
            (.seq
              (.reg (law06_awake_r5 F) (some ([1, 2, 3, 4, 7, 9, 10, 11], [1, 4, 9, 14])))
              (.seq
                (.reg (law06_awake_r6 F) (some ([0], [14])))
                .ret)))))))
def law06_awake_k (P : Program) (F : Nat → Nat) : Prop := chkFn P (F 176) 0 (law06_awake_c F) [0] = true
def sched_Ask_r0 : List AOper := [
  ⟨some 2, .box 9 (.t 0), none⟩,
  ⟨some 3, .box 5 (.t 1), none⟩,
  ⟨some 4, .alloc 9 [.nil 3, .int .i64 0, .bool false, .nil 1, .nil 1, .nil 2, .int .i64 0, .nil 4, .nil 5], none⟩,
  ⟨some 5, .val (.mov (.k (.int .i64 0))), none⟩]
def sched_Ask_r1 (F : Nat → Nat) : List AOper := [
  ⟨some 8, .val (.loadA 9 (.t 2)), none⟩,
  ⟨some 9, .call (F 187) [(.t 8)], none⟩,
  ⟨some 10, .val (.not (.t 9)), none⟩,
  ⟨some 11, .val (.mov (.t 10)), none⟩,
  ⟨some 12, .val (.field 4 (.t 3)), some (11, false)⟩,
  ⟨some 13, .val (.load1 (.t 12)), some (11, false)⟩,
  ⟨some 14, .val (.bin .neq false (.t 13) (.k (.int .i64 0))), some (11, false)⟩,
  ⟨some 15, .val (.por (.t 11) (.t 14)), none⟩,
  ⟨some 16, .val (.mov (.t 15)), none⟩,
  ⟨some 17, .val (.field 0 (.t 3)), some (16, false)⟩,
  ⟨some 18, .val (.load1 (.t 17)), some (16, false)⟩,
  ⟨some 19, .val (.bin .lss false (.t 18) (.k (.int .i64 0))), some (16, false)⟩,
  ⟨some 20, .val (.por (.t 16) (.t 19)), none⟩,
  ⟨some 21, .val (.mov (.t 20)), none⟩,
  ⟨some 22, .val (.field 0 (.t 3)), some (21, false)⟩,
  ⟨some 23, .val (.load1 (.t 22)), some (21, false)⟩,
  ⟨some 24, .val (.field 3 (.t 2)), some (21, false)⟩,
  ⟨some 25, .val (.load1 (.t 24)), some (21, false)⟩,
  ⟨some 26, .val (.lenS (.t 25)), some (21, false)⟩,
  ⟨some 27, .val (.bin .geq false (.t 23) (.t 26)), some (21, false)⟩,
  ⟨some 28, .val (.por (.t 21) (.t 27)), none⟩,
  ⟨some 29, .val (.mov (.t 28)), none⟩,
  ⟨some 30, .val (.loadA 5 (.t 3)), some (29, false)⟩,
  ⟨some 31, .call (F 191) [(.t 30)], some (29, false)⟩,
  ⟨some 32, .val (.not (.t 31)), some (29, false)⟩,
  ⟨some 33, .val (.por (.t 29) (.t 32)), none⟩]
def sched_Ask_r2 : List AOper := [
  ⟨some 34, .val (.loadA 9 (.t 2)), none⟩,
  ⟨none, .stA true 9 (.t 4) (.t 34), none⟩,
  ⟨some 5, .val (.mov (.k (.int .i64 1))), none⟩]
def sched_Ask_r3 : List AOper := [
  ⟨some 35, .val (.field 3 (.t 2)), none⟩,
  ⟨some 36, .val (.load1 (.t 35)), none⟩,
  ⟨some 37, .val (.field 0 (.t 3)), none⟩,
  ⟨some 38, .val (.load1 (.t 37)), none⟩,
  ⟨some 39, .val (.ixS 1 (.t 36) (.t 38)), none⟩,
  ⟨some 40, .val (.load1 (.t 39)), none⟩,
  ⟨some 41, .val (.lenS (.t 40)), none⟩,
  ⟨some 42, .val (.bin .geq false (.t 41) (.k (.int .i64 200))), none⟩]
def sched_Ask_r4 : List AOper := [
  ⟨some 43, .val (.loadA 9 (.t 2)), none⟩,
  ⟨none, .stA true 9 (.t 4) (.t 43), none⟩,
  ⟨some 5, .val (.mov (.k (.int .i64 7))), none⟩]
def sched_Ask_r5 (F : Nat → Nat) : List AOper := [
  ⟨some 45, .val (.field 0 (.t 2)), none⟩,
  ⟨some 46, .val (.loadA 3 (.t 45)), none⟩,
  ⟨some 47, .val (.field 0 (.t 3)), none⟩,
  ⟨some 48, .val (.load1 (.t 47)), none⟩,
  ⟨some 49, .val (.field 1 (.t 3)), none⟩,
  ⟨some 50, .val (.load1 (.t 49)), none⟩,
  ⟨some 51, .call (F 192) [(.t 50)], none⟩,
  ⟨some 52, .call (F 79) [(.t 46), (.t 48), (.t 51)], none⟩,
  ⟨some 44, .val (.mov (.t 52)), none⟩,
  ⟨some 53, .val (.extr 0 (.t 44)), none⟩,
  ⟨some 54, .val (.extr 1 (.t 44)), none⟩,
  ⟨some 6, .alloc 3 [.nil 3, .int .i64 0, .bool false], none⟩,
  ⟨none, .stA true 3 (.t 6) (.t 53), none⟩,
  ⟨some 7, .val (.mov (.t 54)), none⟩]
def sched_Ask_r6 : List AOper := [
  ⟨some 55, .val (.mov (.t 7)), none⟩,
  ⟨some 56, .val (.bin .neq false (.t 55) (.k (.int .i64 0))), none⟩]
def sched_Ask_r7 : List AOper := [
  ⟨some 57, .val (.loadA 9 (.t 2)), none⟩,
  ⟨some 58, .val (.mov (.t 7)), none⟩,
  ⟨none, .stA true 9 (.t 4) (.t 57), none⟩,
  ⟨some 5, .val (.mov (.t 58)), none⟩]
def sched_Ask_r8 : List AOper := [
  ⟨some 59, .val (.loadA 3 (.t 6)), none⟩,
  ⟨some 60, .val (.field 0 (.t 2)), none⟩,
  ⟨none, .stA true 3 (.t 60) (.t 59), none⟩]
def sched_Ask_r9 (F : Nat → Nat) : List AOper := [
  ⟨some 61, .val (.field 3 (.t 2)), none⟩,
  ⟨some 62, .val (.load1 (.t 61)), none⟩,
  ⟨some 63, .call (F 193) [(.t 62)], none⟩,
  ⟨some 64, .val (.field 3 (.t 2)), none⟩,
  ⟨none, .st1 true (.t 64) (.t 63), none⟩]
def sched_Ask_r10 (F : Nat → Nat) : List AOper := [
  ⟨some 65, .val (.field 3 (.t 2)), none⟩,
  ⟨some 66, .val (.load1 (.t 65)), none⟩,
  ⟨some 67, .val (.field 0 (.t 3)), none⟩,
  ⟨some 68, .val (.load1 (.t 67)), none⟩,
  ⟨some 69, .val (.field 3 (.t 2)), none⟩,
  ⟨some 70, .val (.load1 (.t 69)), none⟩,
  ⟨some 71, .val (.field 0 (.t 3)), none⟩,
  ⟨some 72, .val (.load1 (.t 71)), none⟩,
  ⟨some 73, .val (.ixS 1 (.t 70) (.t 72)), none⟩,
  ⟨some 74, .val (.load1 (.t 73)), none⟩,
  ⟨some 75, .call (F 194) [(.t 74)], none⟩,
  ⟨some 76, .val (.loadA 5 (.t 3)), none⟩,
  ⟨some 77, .buildS 5 1 [.int .i64 0, .int .i64 0, .int .i64 0, .str [], .int .i64 0] [(0, (.t 76))], none⟩,
  ⟨some 78, .app 5 48 (.t 75) (.t 77), none⟩,
  ⟨some 79, .val (.ixS 1 (.t 66) (.t 68)), none⟩,
  ⟨none, .st1 false (.t 79) (.t 78), none⟩]
def sched_Ask_r11 : List AOper := [
  ⟨some 80, .val (.loadA 9 (.t 2)), none⟩,
  ⟨none, .stA true 9 (.t 4) (.t 80), none⟩,
  ⟨some 5, .val (.mov (.k (.int .i64 0))), none⟩]
def sched_Ask_c (F : Nat → Nat) : ACode :=
  (.seq
    (.reg sched_Ask_r0 (some ([2, 3, 4], [2, 3, 4, 77, 78, 1063, 1075])))
    (.seq
      (.seq
        (.reg (sched_Ask_r1 F) (some ([2, 3, 4, 33], [2, 3, 4, 77, 78, 1063, 1075])))
        (.cond (.t 33)
          (.seq
            (.reg sched_Ask_r2 (some ([4, 5], [4, 77, 78, 1063, 1075])))
            .ret)
          .skip))
      (.seq
        (.seq
          (.reg sched_Ask_r3 (some ([2, 3, 4, 42], [2, 3, 4, 77, 78, 1063, 1075])))
          (.cond (.t 42)
            (.seq
              (.reg sched_Ask_r4 (some ([4, 5], [4, 77, 78, 1063, 1075])))
              .ret)
            .skip))
        (.seq
          (.regD (sched_Ask_r5 F) [(0, 6), (1, 6), (2, 6), (3, 6), (0, 11), (1, 11), (2, 11), (3, 11), (4, 11), (5, 11), (6, 11), (7, 11), (8, 11), (9, 11), (10, 11), (10, 12)] (some ([2, 3, 4, 6, 7], [2, 3, 4, 6, 77, 78, 1063, 1075])))
          (.seq
            (.seq
              (.reg sched_Ask_r6 (some ([2, 3, 4, 6, 7, 56], [2, 3, 4, 6, 77, 78, 1063, 1075])))
              (.cond (.t 56)
                (.seq
                  (.reg sched_Ask_r7 (some ([4, 5], [4, 77, 78, 1063, 1075])))
                  .ret)
                .skip))
            (.seq
              (.reg sched_Ask_r8 (some ([2, 3, 4], [2, 3, 4, 77, 78, 1063, 1075])))
              (.seq
                (.reg (sched_Ask_r9 F) (some ([2, 3, 4], [2, 3, 4, 77, 78, 1063, 1075])))
                (.seq
                  (.regD (sched_Ask_r10 F) [(0, 10), (1, 10), (2, 10), (3, 10), (10, 11), (0, 12), (1, 12), (2, 12), (3, 12), (4, 12), (5, 12), (6, 12), (7, 12), (8, 12), (9, 12), (10, 12), (0, 13), (1, 13), (2, 13), (3, 13)] (some ([2, 4], [2, 4, 77, 78, 1063, 1075])))
                  (.seq
                    (.reg sched_Ask_r11 (some ([4, 5], [4, 77, 78, 1063, 1075])))
                    .ret)))))))))
def sched_Ask_k (P : Program) (F : Nat → Nat) : Prop := chkFn P (F 177) 2 (sched_Ask_c F) [.loadA 9 (.t 4), 5] = true
def sched_Pump_r0 : List AOper := [
  ⟨some 1, .box 9 (.t 0), none⟩,
  ⟨some 2, .alloc 9 [.nil 3, .int .i64 0, .bool false, .nil 1, .nil 1, .nil 2, .int .i64 0, .nil 4, .nil 5], none⟩]
def sched_Pump_r1 (F : Nat → Nat) : List AOper := [
  ⟨some 8, .val (.loadA 9 (.t 1)), none⟩,
  ⟨some 9, .call (F 187) [(.t 8)], none⟩,
  ⟨some 10, .val (.not (.t 9)), none⟩]
def sched_Pump_r2 : List AOper := [
  ⟨some 11, .val (.loadA 9 (.t 1)), none⟩,
  ⟨none, .stA true 9 (.t 2) (.t 11), none⟩]
def sched_Pump_r3 (F : Nat → Nat) : List AOper := [
  ⟨some 12, .val (.field 3 (.t 1)), none⟩,
  ⟨some 13, .val (.load1 (.t 12)), none⟩,
  ⟨some 14, .call (F 193) [(.t 13)], none⟩,
  ⟨some 15, .val (.field 3 (.t 1)), none⟩,
  ⟨none, .st1 true (.t 15) (.t 14), none⟩]
def sched_Pump_r4 (F : Nat → Nat) : List AOper := [
  ⟨some 16, .val (.field 8 (.t 1)), none⟩,
  ⟨some 17, .val (.load1 (.t 16)), none⟩,
  ⟨some 18, .call (F 194) [(.t 17)], none⟩,
  ⟨some 19, .val (.field 8 (.t 1)), none⟩,
  ⟨none, .st1 true (.t 19) (.t 18), none⟩]
def sched_Pump_r5 : List AOper := [
  ⟨some 20, .val (.field 4 (.t 1)), none⟩,
  ⟨some 21, .val (.field 3 (.t 20)), none⟩,
  ⟨some 22, .val (.load1 (.t 21)), none⟩,
  ⟨some 23, .val (.lenS (.t 22)), none⟩,
  ⟨some 24, .val (.bin .lss false (.t 23) (.k (.int .i64 4))), none⟩,
  ⟨some 25, .val (.mov (.t 24)), none⟩,
  ⟨some 26, .val (.field 4 (.t 1)), some (25, true)⟩,
  ⟨some 27, .val (.field 2 (.t 26)), some (25, true)⟩,
  ⟨some 28, .val (.load1 (.t 27)), some (25, true)⟩,
  ⟨some 29, .val (.bin .lss false (.t 28) (.k (.int .i64 2147483647))), some (25, true)⟩,
  ⟨some 30, .val (.pand (.t 25) (.t 29)), none⟩]
def sched_Pump_r6 (F : Nat → Nat) : List AOper := [
  ⟨some 32, .val (.field 0 (.t 1)), none⟩,
  ⟨some 33, .val (.loadA 3 (.t 32)), none⟩,
  ⟨some 34, .call (F 86) [(.t 33)], none⟩,
  ⟨some 31, .val (.mov (.t 34)), none⟩,
  ⟨some 35, .val (.extr 0 (.t 31)), none⟩,
  ⟨some 36, .val (.extr 1 (.t 31)), none⟩,
  ⟨some 37, .val (.extr 2 (.t 31)), none⟩,
  ⟨some 38, .val (.extr 3 (.t 31)), none⟩,
  ⟨some 3, .alloc 3 [.nil 3, .int .i64 0, .bool false], none⟩,
  ⟨none, .stA true 3 (.t 3) (.t 35), none⟩,
  ⟨some 4, .val (.mov (.t 36)), none⟩,
  ⟨some 5, .val (.mov (.t 37)), none⟩,
  ⟨some 6, .val (.mov (.t 38)), none⟩]
def sched_Pump_r7 : List AOper := [
  ⟨some 39, .val (.mov (.t 6)), none⟩,
  ⟨some 40, .val (.not (.t 39)), none⟩]
def sched_Pump_r8 : List AOper := [
  ⟨some 41, .val (.loadA 3 (.t 3)), none⟩,
  ⟨some 42, .val (.field 0 (.t 1)), none⟩,
  ⟨none, .stA true 3 (.t 42) (.t 41), none⟩]
def sched_Pump_r9 : List AOper := [
  ⟨some 43, .val (.field 3 (.t 1)), none⟩,
  ⟨some 44, .val (.load1 (.t 43)), none⟩,
  ⟨some 45, .val (.mov (.t 4)), none⟩,
  ⟨some 46, .val (.ixS 1 (.t 44) (.t 45)), none⟩,
  ⟨some 47, .val (.load1 (.t 46)), none⟩,
  ⟨some 48, .val (.ixS 5 (.t 47) (.k (.int .i64 0))), none⟩,
  ⟨some 49, .val (.loadA 5 (.t 48)), none⟩,
  ⟨some 7, .alloc 5 [.int .i64 0, .int .i64 0, .int .i64 0, .str [], .int .i64 0], none⟩,
  ⟨none, .stA true 5 (.t 7) (.t 49), none⟩]
def sched_Pump_r10 (F : Nat → Nat) : List AOper := [
  ⟨some 50, .val (.field 3 (.t 1)), none⟩,
  ⟨some 51, .val (.load1 (.t 50)), none⟩,
  ⟨some 52, .val (.mov (.t 4)), none⟩,
  ⟨some 53, .val (.field 3 (.t 1)), none⟩,
  ⟨some 54, .val (.load1 (.t 53)), none⟩,
  ⟨some 55, .val (.mov (.t 4)), none⟩,
  ⟨some 56, .val (.ixS 1 (.t 54) (.t 55)), none⟩,
  ⟨some 57, .val (.load1 (.t 56)), none⟩,
  ⟨some 58, .val (.slS 5 (.t 57) (some (.k (.int .i64 1))) none), none⟩,
  ⟨some 59, .call (F 194) [(.t 58)], none⟩,
  ⟨some 60, .val (.ixS 1 (.t 51) (.t 52)), none⟩,
  ⟨none, .st1 false (.t 60) (.t 59), none⟩]
def sched_Pump_r11 : List AOper := [
  ⟨some 61, .val (.field 4 (.t 7)), none⟩,
  ⟨none, .st1 true (.t 61) (.k (.int .i64 1)), none⟩]
def sched_Pump_r12 (F : Nat → Nat) : List AOper := [
  ⟨some 63, .val (.field 4 (.t 1)), none⟩,
  ⟨some 64, .val (.loadA 4 (.t 63)), none⟩,
  ⟨some 65, .val (.field 1 (.t 7)), none⟩,
  ⟨some 66, .val (.load1 (.t 65)), none⟩,
  ⟨some 67, .val (.field 2 (.t 7)), none⟩,
  ⟨some 68, .val (.load1 (.t 67)), none⟩,
  ⟨some 69, .val (.field 3 (.t 7)), none⟩,
  ⟨some 70, .val (.load1 (.t 69)), none⟩,
  ⟨some 71, .call (F 168) [(.t 64), (.t 66), (.t 68), (.t 70)], none⟩,
  ⟨some 62, .val (.mov (.t 71)), none⟩,
  ⟨some 72, .val (.extr 0 (.t 62)), none⟩,
  ⟨some 73, .val (.extr 1 (.t 62)), none⟩,
  ⟨some 74, .val (.extr 2 (.t 62)), none⟩,
  ⟨some 75, .val (.field 4 (.t 1)), none⟩,
  ⟨none, .stA true 4 (.t 75) (.t 72), none⟩]
def sched_Pump_r13 : List AOper := [
  ⟨some 76, .val (.field 8 (.t 1)), none⟩,
  ⟨some 77, .val (.load1 (.t 76)), none⟩,
  ⟨some 78, .val (.loadA 5 (.t 7)), none⟩,
  ⟨some 79, .buildS 5 1 [.int .i64 0, .int .i64 0, .int .i64 0, .str [], .int .i64 0] [(0, (.t 78))], none⟩,
  ⟨some 80, .app 5 48 (.t 77) (.t 79), none⟩,
  ⟨some 81, .val (.field 8 (.t 1)), none⟩,
  ⟨none, .st1 true (.t 81) (.t 80), none⟩]
def sched_Pump_r14 : List AOper := [
  ⟨some 82, .val (.loadA 9 (.t 1)), none⟩,
  ⟨none, .stA true 9 (.t 2) (.t 82), none⟩]
def sched_Pump_c (F : Nat → Nat) : ACode :=
  (.seq
    (.reg sched_Pump_r0 (some ([1, 2], [1, 2, 79, 80, 1014, 1018, 1059])))
    (.seq
      (.seq
        (.reg (sched_Pump_r1 F) (some ([1, 2, 10], [1, 2, 79, 80, 1014, 1018, 1059])))
        (.cond (.t 10)
          (.seq
            (.reg sched_Pump_r2 (some ([2], [2, 79, 80, 1014, 1018, 1059])))
            .ret)
          .skip))
      (.seq
        (.reg (sched_Pump_r3 F) (some ([1, 2], [1, 2, 79, 80, 1014, 1018, 1059])))
        (.seq
          (.reg (sched_Pump_r4 F) (some ([1, 2], [1, 2, 79, 80, 1014, 1018, 1059])))
          (.seq
            (.block 0
              (.loop
                (.seq
                  (.seq
                    (.reg sched_Pump_r5 (some ([1, 2, 30], [1, 2, 79, 80, 1014, 1018, 1059])))
                    (.cond (.t 30)
                      .skip
                      (.exit 0)))
                  (.block 1
                    (.seq
                      (.reg (sched_Pump_r6 F) (some ([1, 2, 3, 4, 6], [1, 2, 3, 79, 80, 1014, 1018, 1059])))
                      (.seq
                        (.seq
                          (.reg sched_Pump_r7 (some ([1, 2, 3, 4, 40], [1, 2, 3, 79, 80, 1014, 1018, 1059])))
                          (.cond (.t 40)
                            (.exit 0)
                            .skip))
                        (.seq
                          (.reg sched_Pump_r8 (some ([1, 2, 4], [1, 2, 79, 80, 1014, 1018, 1059])))
                          (.seq
                            (.reg sched_Pump_r9 (some ([1, 2, 4, 7], [1, 2, 7, 79, 80, 1014, 1018, 1059])))
                            (.seq
                              (.regD (sched_Pump_r10 F) [(0, 9), (1, 9), (2, 9)] (some ([1, 2, 7], [1, 2, 7, 79, 80, 1014, 1018, 1059])))
                              (.seq
                                (.reg sched_Pump_r11 (some ([1, 2, 7], [1, 2, 7, 79, 80, 1014, 1018, 1059])))
                                (.seq
                                  (.reg (sched_Pump_r12 F) (some ([1, 2, 7], [1, 2, 7, 79, 80, 1014, 1018, 1059])))
                                  (.reg sched_Pump_r13 (some ([1, 2], [1, 2, 79, 80, 1014, 1018, 1059]))))))))))))))
            (.seq
              (.reg sched_Pump_r14 (some ([2], [2, 79, 80, 1014, 1018, 1059])))
              .ret))))))
def sched_Pump_k (P : Program) (F : Nat → Nat) : Prop := chkFn P (F 178) 1 (sched_Pump_c F) [.loadA 9 (.t 2)] = true
def sched_Done_r0 : List AOper := [
  ⟨some 3, .box 9 (.t 0), none⟩,
  ⟨some 6, .alloc 9 [.nil 3, .int .i64 0, .bool false, .nil 1, .nil 1, .nil 2, .int .i64 0, .nil 4, .nil 5], none⟩,
  ⟨some 7, .alloc 5 [.int .i64 0, .int .i64 0, .int .i64 0, .str [], .int .i64 0], none⟩,
  ⟨some 8, .val (.mov (.k (.int .i64 0))), none⟩,
  ⟨some 9, .val (.mov (.k (.bool false))), none⟩]
def sched_Done_r1 (F : Nat → Nat) : List AOper := [
  ⟨some 14, .val (.loadA 9 (.t 3)), none⟩,
  ⟨some 15, .call (F 187) [(.t 14)], none⟩,
  ⟨some 16, .val (.not (.t 15)), none⟩,
  ⟨some 17, .val (.mov (.t 16)), none⟩,
  ⟨some 18, .val (.mov (.t 1)), some (17, false)⟩,
  ⟨some 19, .val (.bin .lss false (.t 18) (.k (.int .i64 0))), some (17, false)⟩,
  ⟨some 20, .val (.por (.t 17) (.t 19)), none⟩,
  ⟨some 21, .val (.mov (.t 20)), none⟩,
  ⟨some 22, .val (.mov (.t 1)), some (21, false)⟩,
  ⟨some 23, .val (.field 8 (.t 3)), some (21, false)⟩,
  ⟨some 24, .val (.load1 (.t 23)), some (21, false)⟩,
  ⟨some 25, .val (.lenS (.t 24)), some (21, false)⟩,
  ⟨some 26, .val (.bin .geq false (.t 22) (.t 25)), some (21, false)⟩,
  ⟨some 27, .val (.por (.t 21) (.t 26)), none⟩]
def sched_Done_r2 : List AOper := [
  ⟨some 28, .val (.loadA 9 (.t 3)), none⟩,
  ⟨some 29, .val (.build 5 [.int .i64 0, .int .i64 0, .int .i64 0, .str [], .int .i64 0] []), none⟩,
  ⟨none, .stA true 9 (.t 6) (.t 28), none⟩,
  ⟨none, .stA true 5 (.t 7) (.t 29), none⟩,
  ⟨some 8, .val (.mov (.k (.int .i64 1))), none⟩,
  ⟨some 9, .val (.mov (.k (.bool false))), none⟩]
def sched_Done_r3 : List AOper := [
  ⟨some 30, .val (.field 8 (.t 3)), none⟩,
  ⟨some 31, .val (.load1 (.t 30)), none⟩,
  ⟨some 32, .val (.mov (.t 1)), none⟩,
  ⟨some 33, .val (.ixS 5 (.t 31) (.t 32)), none⟩,
  ⟨some 34, .val (.loadA 5 (.t 33)), none⟩,
  ⟨some 10, .alloc 5 [.int .i64 0, .int .i64 0, .int .i64 0, .str [], .int .i64 0], none⟩,
  ⟨none, .stA true 5 (.t 10) (.t 34), none⟩]
def sched_Done_r4 (F : Nat → Nat) : List AOper := [
  ⟨some 36, .val (.field 4 (.t 3)), none⟩,
  ⟨some 37, .val (.loadA 4 (.t 36)), none⟩,
  ⟨some 38, .val (.mov (.t 1)), none⟩,
  ⟨some 39, .val (.mov (.t 2)), none⟩,
  ⟨some 40, .call (F 149) [(.t 37), (.t 38), (.t 39)], none⟩,
  ⟨some 35, .val (.mov (.t 40)), none⟩,
  ⟨some 41, .val (.extr 0 (.t 35)), none⟩,
  ⟨some 42, .val (.extr 1 (.t 35)), none⟩,
  ⟨some 43, .val (.extr 2 (.t 35)), none⟩,
  ⟨some 11, .alloc 4 [.nil 1, .nil 2, .int .i64 0, .nil 4], none⟩,
  ⟨some 12, .alloc 4 [.int .i64 0, .int .i64 0, .int .i64 0, .str []], none⟩,
  ⟨none, .stA true 4 (.t 11) (.t 41), none⟩,
  ⟨none, .stA true 4 (.t 12) (.t 42), none⟩,
  ⟨some 13, .val (.mov (.t 43)), none⟩]
def sched_Done_r5 : List AOper := [
  ⟨some 44, .val (.loadA 4 (.t 11)), none⟩,
  ⟨some 45, .val (.field 4 (.t 3)), none⟩,
  ⟨none, .stA true 4 (.t 45) (.t 44), none⟩]
def sched_Done_r6 (F : Nat → Nat) : List AOper := [
  ⟨some 46, .val (.field 8 (.t 3)), none⟩,
  ⟨some 47, .val (.load1 (.t 46)), none⟩,
  ⟨some 48, .val (.mov (.t 1)), none⟩,
  ⟨some 49, .val (.slS 5 (.t 47) none (some (.t 48))), none⟩,
  ⟨some 50, .val (.field 8 (.t 3)), none⟩,
  ⟨some 51, .val (.load1 (.t 50)), none⟩,
  ⟨some 52, .val (.mov (.t 1)), none⟩,
  ⟨some 53, .val (.bin .add true (.t 52) (.k (.int .i64 1))), none⟩,
  ⟨some 54, .val (.slS 5 (.t 51) (some (.t 53)) none), none⟩,
  ⟨some 55, .buildS 1 2 [.nil 5] [(0, (.t 49)), (1, (.t 54))], none⟩,
  ⟨some 56, .call (F 152) [(.t 55)], none⟩,
  ⟨some 57, .val (.field 8 (.t 3)), none⟩,
  ⟨none, .st1 true (.t 57) (.t 56), none⟩]
def sched_Done_r7 : List AOper := [
  ⟨some 58, .val (.mov (.t 13)), none⟩,
  ⟨some 59, .val (.bin .eql false (.t 58) (.k (.int .i64 8))), none⟩,
  ⟨some 60, .val (.mov (.t 59)), none⟩,
  ⟨some 61, .val (.field 4 (.t 10)), some (60, true)⟩,
  ⟨some 62, .val (.load1 (.t 61)), some (60, true)⟩,
  ⟨some 63, .val (.bin .lss false (.t 62) (.k (.int .i64 3))), some (60, true)⟩,
  ⟨some 64, .val (.pand (.t 60) (.t 63)), none⟩,
  ⟨some 65, .val (.mov (.t 64)), none⟩,
  ⟨some 66, .val (.field 4 (.t 3)), some (65, true)⟩,
  ⟨some 67, .val (.field 2 (.t 66)), some (65, true)⟩,
  ⟨some 68, .val (.load1 (.t 67)), some (65, true)⟩,
  ⟨some 69, .val (.bin .lss false (.t 68) (.k (.int .i64 2147483647))), some (65, true)⟩,
  ⟨some 70, .val (.pand (.t 65) (.t 69)), none⟩]
def sched_Done_r8 (F : Nat → Nat) : List AOper := [
  ⟨some 72, .val (.field 4 (.t 3)), none⟩,
  ⟨some 73, .val (.loadA 4 (.t 72)), none⟩,
  ⟨some 74, .val (.field 1 (.t 10)), none⟩,
  ⟨some 75, .val (.load1 (.t 74)), none⟩,
  ⟨some 76, .val (.field 2 (.t 10)), none⟩,
  ⟨some 77, .val (.load1 (.t 76)), none⟩,
  ⟨some 78, .val (.field 3 (.t 10)), none⟩,
  ⟨some 79, .val (.load1 (.t 78)), none⟩,
  ⟨some 80, .call (F 168) [(.t 73), (.t 75), (.t 77), (.t 79)], none⟩,
  ⟨some 71, .val (.mov (.t 80)), none⟩,
  ⟨some 81, .val (.extr 0 (.t 71)), none⟩,
  ⟨some 82, .val (.extr 1 (.t 71)), none⟩,
  ⟨some 83, .val (.extr 2 (.t 71)), none⟩,
  ⟨some 84, .val (.field 4 (.t 3)), none⟩,
  ⟨none, .stA true 4 (.t 84) (.t 81), none⟩]
def sched_Done_r9 : List AOper := [
  ⟨some 85, .val (.field 4 (.t 10)), none⟩,
  ⟨some 86, .val (.load1 (.t 85)), none⟩,
  ⟨some 87, .val (.bin .add true (.t 86) (.k (.int .i64 1))), none⟩,
  ⟨some 88, .val (.field 4 (.t 10)), none⟩,
  ⟨none, .st1 true (.t 88) (.t 87), none⟩]
def sched_Done_r10 : List AOper := [
  ⟨some 89, .val (.field 8 (.t 3)), none⟩,
  ⟨some 90, .val (.load1 (.t 89)), none⟩,
  ⟨some 91, .val (.loadA 5 (.t 10)), none⟩,
  ⟨some 92, .buildS 5 1 [.int .i64 0, .int .i64 0, .int .i64 0, .str [], .int .i64 0] [(0, (.t 91))], none⟩,
  ⟨some 93, .app 5 48 (.t 90) (.t 92), none⟩,
  ⟨some 94, .val (.field 8 (.t 3)), none⟩,
  ⟨none, .st1 true (.t 94) (.t 93), none⟩]
def sched_Done_r11 : List AOper := [
  ⟨some 95, .val (.loadA 9 (.t 3)), none⟩,
  ⟨some 96, .val (.build 5 [.int .i64 0, .int .i64 0, .int .i64 0, .str [], .int .i64 0] []), none⟩,
  ⟨none, .stA true 9 (.t 6) (.t 95), none⟩,
  ⟨none, .stA true 5 (.t 7) (.t 96), none⟩,
  ⟨some 8, .val (.mov (.k (.int .i64 0))), none⟩,
  ⟨some 9, .val (.mov (.k (.bool false))), none⟩]
def sched_Done_r12 : List AOper := [
  ⟨some 97, .val (.field 3 (.t 12)), none⟩,
  ⟨some 98, .val (.load1 (.t 97)), none⟩,
  ⟨some 99, .val (.field 3 (.t 10)), none⟩,
  ⟨none, .st1 true (.t 99) (.t 98), none⟩]
def sched_Done_r13 : List AOper := [
  ⟨some 100, .val (.loadA 9 (.t 3)), none⟩,
  ⟨some 101, .val (.loadA 5 (.t 10)), none⟩,
  ⟨some 102, .val (.mov (.t 13)), none⟩,
  ⟨none, .stA true 9 (.t 6) (.t 100), none⟩,
  ⟨none, .stA true 5 (.t 7) (.t 101), none⟩,
  ⟨some 8, .val (.mov (.t 102)), none⟩,
  ⟨some 9, .val (.mov (.k (.bool true))), none⟩]
def sched_Done_c (F : Nat → Nat) : ACode :=
  (.seq
    (.reg sched_Done_r0 (some ([1, 2, 3, 6, 7], [3, 6, 7, 55, 92, 93, 1056])))
    (.seq
      (.seq
        (.reg (sched_Done_r1 F) (some ([1, 2, 3, 6, 7, 27], [3, 6, 7, 55, 92, 93, 1056])))
        (.cond (.t 27)
          (.seq
            (.reg sched_Done_r2 (some ([6, 7, 8, 9], [6, 7, 55, 92, 93, 1056])))
            .ret)
          .skip))
      (.seq
        (.reg sched_Done_r3 (some ([1, 2, 3, 6, 7, 10], [3, 6, 7, 10, 55, 92, 93, 1056])))
        (.seq
          (.reg (sched_Done_r4 F) (some ([1, 3, 6, 7, 10, 11, 12, 13], [3, 6, 7, 10, 11, 12, 55, 92, 93, 1056])))
          (.seq
            (.reg sched_Done_r5 (some ([1, 3, 6, 7, 10, 12, 13], [3, 6, 7, 10, 12, 55, 92, 93, 1056])))
            (.seq
              (.regD (sched_Done_r6 F) [] (some ([3, 6, 7, 10, 12, 13], [3, 6, 7, 10, 12, 55, 92, 93, 1056])))
              (.seq
                (.seq
                  (.reg sched_Done_r7 (some ([3, 6, 7, 10, 12, 13, 70], [3, 6, 7, 10, 12, 55, 92, 93, 1056])))
                  (.cond (.t 70)
                    (.seq
                      (.reg (sched_Done_r8 F) (some ([3, 6, 7, 10], [3, 6, 7, 10, 55, 92, 93, 1056])))
                      (.seq
                        (.reg sched_Done_r9 (some ([3, 6, 7, 10], [3, 6, 7, 10, 55, 92, 93, 1056])))
                        (.seq
                          (.reg sched_Done_r10 (some ([3, 6, 7], [3, 6, 7, 55, 92, 93, 1056])))
                          (.seq
                            (.reg sched_Done_r11 (some ([6, 7, 8, 9], [6, 7, 55, 92, 93, 1056])))
                            .ret))))
                    .skip))
                (.seq
                  (.reg sched_Done_r12 (some ([3, 6, 7, 10, 13], [3, 6, 7, 10, 55, 92, 93, 1056])))
                  (.seq
                    (.regD sched_Done_r13 [(1, 3), (2, 3), (2, 4)] (some ([6, 7, 8, 9], [6, 7, 55, 92, 93, 1056])))
                    .ret)))))))))
def sched_Done_k (P : Program) (F : Nat → Nat) : Prop := chkFn P (F 179) 3 (sched_Done_c F) [.loadA 9 (.t 6), .loadA 5 (.t 7), 8, 9] = true
def sched_Crash_r0 : List AOper := [
  ⟨some 2, .box 9 (.t 0), none⟩,
  ⟨some 4, .alloc 9 [.nil 3, .int .i64 0, .bool false, .nil 1, .nil 1, .nil 2, .int .i64 0, .nil 4, .nil 5], none⟩]
def sched_Crash_r1 (F : Nat → Nat) : List AOper := [
  ⟨some 10, .val (.loadA 9 (.t 2)), none⟩,
  ⟨some 11, .call (F 187) [(.t 10)], none⟩,
  ⟨some 12, .val (.not (.t 11)), none⟩]
def sched_Crash_r2 : List AOper := [
  ⟨some 13, .val (.loadA 9 (.t 2)), none⟩,
  ⟨none, .stA true 9 (.t 4) (.t 13), none⟩]
def sched_Crash_r3 : List AOper := [
  ⟨some 14, .val (.field 0 (.t 2)), none⟩,
  ⟨some 15, .val (.field 0 (.t 14)), none⟩,
  ⟨some 16, .val (.load1 (.t 15)), none⟩,
  ⟨some 17, .val (.lenS (.t 16)), none⟩,
  ⟨some 18, .mk 1 8 [.int .i64 0] (.t 17), none⟩,
  ⟨some 5, .val (.mov (.t 18)), none⟩]
def sched_Crash_r4 : List AOper := [
  ⟨some 19, .val (.field 0 (.t 2)), none⟩,
  ⟨some 20, .val (.field 0 (.t 19)), none⟩,
  ⟨some 21, .val (.load1 (.t 20)), none⟩,
  ⟨some 22, .val (.lenS (.t 21)), none⟩,
  ⟨some 23, .val (.mov (.k (.int .i64 0))), none⟩]
def sched_Crash_r5 : List AOper := [
  ⟨some 24, .val (.bin .lss false (.t 23) (.t 22)), none⟩]
def sched_Crash_r6 : List AOper := [
  ⟨some 25, .val (.mov (.t 23)), none⟩,
  ⟨some 26, .val (.ixS 3 (.t 21) (.t 23)), none⟩,
  ⟨some 27, .val (.loadA 3 (.t 26)), none⟩,
  ⟨some 7, .alloc 3 [.int .i64 0, .int .i64 0, .nil 1], none⟩,
  ⟨some 6, .val (.mov (.t 25)), none⟩,
  ⟨none, .stA true 3 (.t 7) (.t 27), none⟩]
def sched_Crash_r7 : List AOper := [
  ⟨some 28, .val (.mov (.t 5)), none⟩,
  ⟨some 29, .val (.mov (.t 6)), none⟩,
  ⟨some 30, .val (.field 0 (.t 7)), none⟩,
  ⟨some 31, .val (.load1 (.t 30)), none⟩,
  ⟨some 32, .val (.ixS 1 (.t 28) (.t 29)), none⟩,
  ⟨none, .st1 false (.t 32) (.t 31), none⟩]
def sched_Crash_r8 : List AOper := [
  ⟨some 33, .val (.bin .add true (.t 23) (.k (.int .i64 1))), none⟩,
  ⟨some 23, .val (.mov (.t 33)), none⟩]
def sched_Crash_r9 (F : Nat → Nat) : List AOper := [
  ⟨some 35, .val (.mov (.t 5)), none⟩,
  ⟨some 36, .call (F 75) [(.t 35)], none⟩,
  ⟨some 34, .val (.mov (.t 36)), none⟩,
  ⟨some 37, .val (.extr 0 (.t 34)), none⟩,
  ⟨some 38, .val (.extr 1 (.t 34)), none⟩,
  ⟨some 8, .alloc 3 [.nil 3, .int .i64 0, .bool false], none⟩,
  ⟨none, .stA true 3 (.t 8) (.t 37), none⟩,
  ⟨some 9, .val (.mov (.t 38)), none⟩]
def sched_Crash_r10 (F : Nat → Nat) : List AOper := [
  ⟨some 39, .val (.loadA 3 (.t 8)), none⟩,
  ⟨some 40, .val (.mov (.t 5)), none⟩,
  ⟨some 41, .val (.lenS (.t 40)), none⟩,
  ⟨some 42, .mk 1 24 [.nil 5] (.t 41), none⟩,
  ⟨some 43, .val (.field 4 (.t 2)), none⟩,
  ⟨some 44, .val (.loadA 4 (.t 43)), none⟩,
  ⟨some 45, .val (.mov (.t 1)), none⟩,
  ⟨some 46, .call (F 174) [(.t 44), (.t 45)], none⟩,
  ⟨some 47, .val (.build 9 [.nil 3, .int .i64 0, .bool false, .nil 1, .nil 1, .nil 2, .int .i64 0, .nil 4, .nil 5] [(0, 3, (.t 39)), (3, 1, (.t 42)), (4, 4, (.t 46))]), none⟩,
  ⟨none, .stA true 9 (.t 4) (.t 47), none⟩]
def sched_Crash_c (F : Nat → Nat) : ACode :=
  (.seq
    (.reg sched_Crash_r0 (some ([1, 2, 4], [2, 4, 18, 42])))
    (.seq
      (.seq
        (.reg (sched_Crash_r1 F) (some ([1, 2, 4, 12], [2, 4, 18, 42])))
        (.cond (.t 12)
          (.seq
            (.reg sched_Crash_r2 (some ([4], [4, 18, 42])))
            .ret)
          .skip))
      (.seq
        (.reg sched_Crash_r3 (some ([1, 2, 4, 5], [2, 4, 18, 42])))
        (.seq
          (.seq
            (.reg sched_Crash_r4 (some ([1, 2, 4, 5, 21, 22, 23], [2, 4, 18, 42])))
            (.block 0
              (.loop
                (.seq
                  (.reg sched_Crash_r5 (some ([1, 2, 4, 5, 21, 22, 23, 24], [2, 4, 18, 42])))
                  (.seq
                    (.cond (.t 24)
                      .skip
                      (.exit 0))
                    (.seq
                      (.block 1
                        (.seq
                          (.reg sched_Crash_r6 (some ([1, 2, 4, 5, 6, 7, 21, 22, 23], [2, 4, 7, 18, 42])))
                          (.reg sched_Crash_r7 (some ([1, 2, 4, 5, 21, 22, 23], [2, 4, 18, 42])))))
                      (.reg sched_Crash_r8 (some ([1, 2, 4, 5, 21, 22, 23], [2, 4, 18, 42])))))))))
          (.seq
            (.reg (sched_Crash_r9 F) (some ([1, 2, 4, 5, 8], [2, 4, 8, 18, 42])))
            (.seq
              (.regD (sched_Crash_r10 F) [(0, 3), (3, 4), (3, 5), (3, 6), (0, 7), (1, 7), (2, 7), (3, 7)] (some ([4], [4, 18, 42])))
              .ret))))))
def sched_Crash_k (P : Program) (F : Nat → Nat) : Prop := chkFn P (F 183) 2 (sched_Crash_c F) [.loadA 9 (.t 4)] = true
def sched_Right_r0 : List AOper := [
  ⟨some 1, .box 9 (.t 0), none⟩,
  ⟨some 2, .val (.mov (.k (.bool false))), none⟩]
def sched_Right_r1 (F : Nat → Nat) : List AOper := [
  ⟨some 11, .val (.field 0 (.t 1)), none⟩,
  ⟨some 12, .val (.loadA 3 (.t 11)), none⟩,
  ⟨some 13, .call (F 76) [(.t 12)], none⟩,
  ⟨some 14, .val (.not (.t 13)), none⟩,
  ⟨some 15, .val (.mov (.t 14)), none⟩,
  ⟨some 16, .val (.field 4 (.t 1)), some (15, false)⟩,
  ⟨some 17, .val (.loadA 4 (.t 16)), some (15, false)⟩,
  ⟨some 18, .call (F 145) [(.t 17)], some (15, false)⟩,
  ⟨some 19, .val (.not (.t 18)), some (15, false)⟩,
  ⟨some 20, .val (.por (.t 15) (.t 19)), none⟩]
def sched_Right_r2 : List AOper := [
  ⟨some 2, .val (.mov (.k (.bool false))), none⟩]
def sched_Right_r3 : List AOper := [
  ⟨some 21, .val (.field 3 (.t 1)), none⟩,
  ⟨some 22, .val (.load1 (.t 21)), none⟩,
  ⟨some 23, .val (.lenS (.t 22)), none⟩,
  ⟨some 24, .val (.field 0 (.t 1)), none⟩,
  ⟨some 25, .val (.field 0 (.t 24)), none⟩,
  ⟨some 26, .val (.load1 (.t 25)), none⟩,
  ⟨some 27, .val (.lenS (.t 26)), none⟩,
  ⟨some 28, .val (.bin .neq false (.t 23) (.t 27)), none⟩,
  ⟨some 29, .val (.mov (.t 28)), none⟩,
  ⟨some 30, .val (.field 8 (.t 1)), some (29, false)⟩,
  ⟨some 31, .val (.load1 (.t 30)), some (29, false)⟩,
  ⟨some 32, .val (.lenS (.t 31)), some (29, false)⟩,
  ⟨some 33, .val (.field 4 (.t 1)), some (29, false)⟩,
  ⟨some 34, .val (.field 3 (.t 33)), some (29, false)⟩,
  ⟨some 35, .val (.load1 (.t 34)), some (29, false)⟩,
  ⟨some 36, .val (.lenS (.t 35)), some (29, false)⟩,
  ⟨some 37, .val (.bin .neq false (.t 32) (.t 36)), some (29, false)⟩,
  ⟨some 38, .val (.por (.t 29) (.t 37)), none⟩]
def sched_Right_r4 : List AOper := [
  ⟨some 2, .val (.mov (.k (.bool false))), none⟩]
def sched_Right_r5 : List AOper := [
  ⟨some 39, .val (.field 3 (.t 1)), none⟩,
  ⟨some 40, .val (.load1 (.t 39)), none⟩,
  ⟨some 41, .val (.lenS (.t 40)), none⟩,
  ⟨some 42, .val (.mov (.k (.int .i64 0))), none⟩]
def sched_Right_r6 : List AOper := [
  ⟨some 43, .val (.bin .lss false (.t 42) (.t 41)), none⟩]
def sched_Right_r7 : List AOper := [
  ⟨some 44, .val (.mov (.t 42)), none⟩,
  ⟨some 45, .val (.ixS 1 (.t 40) (.t 42)), none⟩,
  ⟨some 46, .val (.load1 (.t 45)), none⟩,
  ⟨some 3, .val (.mov (.t 44)), none⟩,
  ⟨some 4, .val (.mov (.t 46)), none⟩]
def sched_Right_r8 : List AOper := [
  ⟨some 47, .val (.field 0 (.t 1)), none⟩,
  ⟨some 48, .val (.field 0 (.t 47)), none⟩,
  ⟨some 49, .val (.load1 (.t 48)), none⟩,
  ⟨some 50, .val (.mov (.t 3)), none⟩,
  ⟨some 51, .val (.ixS 3 (.t 49) (.t 50)), none⟩,
  ⟨some 52, .val (.field 2 (.t 51)), none⟩,
  ⟨some 53, .val (.load1 (.t 52)), none⟩,
  ⟨some 5, .val (.mov (.t 53)), none⟩]
def sched_Right_r9 : List AOper := [
  ⟨some 54, .val (.mov (.t 4)), none⟩,
  ⟨some 55, .val (.lenS (.t 54)), none⟩,
  ⟨some 56, .val (.mov (.t 5)), none⟩,
  ⟨some 57, .val (.lenS (.t 56)), none⟩,
  ⟨some 58, .val (.bin .neq false (.t 55) (.t 57)), none⟩]
def sched_Right_r10 : List AOper := [
  ⟨some 2, .val (.mov (.k (.bool false))), none⟩]
def sched_Right_r11 : List AOper := [
  ⟨some 59, .val (.mov (.t 4)), none⟩,
  ⟨some 60, .val (.lenS (.t 59)), none⟩,
  ⟨some 61, .val (.mov (.k (.int .i64 0))), none⟩]
def sched_Right_r12 : List AOper := [
  ⟨some 62, .val (.bin .lss false (.t 61) (.t 60)), none⟩]
def sched_Right_r13 : List AOper := [
  ⟨some 63, .val (.mov (.t 61)), none⟩,
  ⟨some 64, .val (.ixS 5 (.t 59) (.t 61)), none⟩,
  ⟨some 65, .val (.loadA 5 (.t 64)), none⟩,
  ⟨some 7, .alloc 5 [.int .i64 0, .int .i64 0, .int .i64 0, .str [], .int .i64 0], none⟩,
  ⟨some 6, .val (.mov (.t 63)), none⟩,
  ⟨none, .stA true 5 (.t 7) (.t 65), none⟩]
def sched_Right_r14 (F : Nat → Nat) : List AOper := [
  ⟨some 66, .val (.loadA 5 (.t 7)), none⟩,
  ⟨some 67, .call (F 191) [(.t 66)], none⟩,
  ⟨some 68, .val (.not (.t 67)), none⟩,
  ⟨some 69, .val (.mov (.t 68)), none⟩,
  ⟨some 70, .val (.field 1 (.t 7)), some (69, false)⟩,
  ⟨some 71, .val (.load1 (.t 70)), some (69, false)⟩,
  ⟨some 72, .call (F 192) [(.t 71)], some (69, false)⟩,
  ⟨some 73, .val (.mov (.t 5)), some (69, false)⟩,
  ⟨some 74, .val (.mov (.t 6)), some (69, false)⟩,
  ⟨some 75, .val (.ixS 1 (.t 73) (.t 74)), some (69, false)⟩,
  ⟨some 76, .val (.load1 (.t 75)), some (69, false)⟩,
  ⟨some 77, .val (.bin .neq false (.t 72) (.t 76)), some (69, false)⟩,
  ⟨some 78, .val (.por (.t 69) (.t 77)), none⟩,
  ⟨some 79, .val (.mov (.t 78)), none⟩,
  ⟨some 80, .val (.field 0 (.t 7)), some (79, false)⟩,
  ⟨some 81, .val (.load1 (.t 80)), some (79, false)⟩,
  ⟨some 82, .val (.mov (.t 3)), some (79, false)⟩,
  ⟨some 83, .val (.bin .neq false (.t 81) (.t 82)), some (79, false)⟩,
  ⟨some 84, .val (.por (.t 79) (.t 83)), none⟩,
  ⟨some 85, .val (.mov (.t 84)), none⟩,
  ⟨some 86, .val (.field 4 (.t 7)), some (85, false)⟩,
  ⟨some 87, .val (.load1 (.t 86)), some (85, false)⟩,
  ⟨some 88, .val (.bin .neq false (.t 87) (.k (.int .i64 0))), some (85, false)⟩,
  ⟨some 89, .val (.por (.t 85) (.t 88)), none⟩]
def sched_Right_r15 : List AOper := [
  ⟨some 2, .val (.mov (.k (.bool false))), none⟩]
def sched_Right_r16 : List AOper := [
  ⟨some 90, .val (.bin .add true (.t 61) (.k (.int .i64 1))), none⟩,
  ⟨some 61, .val (.mov (.t 90)), none⟩]
def sched_Right_r17 : List AOper := [
  ⟨some 91, .val (.bin .add true (.t 42) (.k (.int .i64 1))), none⟩,
  ⟨some 42, .val (.mov (.t 91)), none⟩]
def sched_Right_r18 : List AOper := [
  ⟨some 92, .val (.field 8 (.t 1)), none⟩,
  ⟨some 93, .val (.load1 (.t 92)), none⟩,
  ⟨some 94, .val (.lenS (.t 93)), none⟩,
  ⟨some 95, .val (.mov (.k (.int .i64 0))), none⟩]
def sched_Right_r19 : List AOper := [
  ⟨some 96, .val (.bin .lss false (.t 95) (.t 94)), none⟩]
def sched_Right_r20 : List AOper := [
  ⟨some 97, .val (.mov (.t 95)), none⟩,
  ⟨some 98, .val (.ixS 5 (.t 93) (.t 95)), none⟩,
  ⟨some 99, .val (.loadA 5 (.t 98)), none⟩,
  ⟨some 9, .alloc 5 [.int .i64 0, .int .i64 0, .int .i64 0, .str [], .int .i64 0], none⟩,
  ⟨some 8, .val (.mov (.t 97)), none⟩,
  ⟨none, .stA true 5 (.t 9) (.t 99), none⟩]
def sched_Right_r21 : List AOper := [
  ⟨some 100, .val (.field 4 (.t 1)), none⟩,
  ⟨some 101, .val (.field 3 (.t 100)), none⟩,
  ⟨some 102, .val (.load1 (.t 101)), none⟩,
  ⟨some 103, .val (.mov (.t 8)), none⟩,
  ⟨some 104, .val (.ixS 4 (.t 102) (.t 103)), none⟩,
  ⟨some 105, .val (.loadA 4 (.t 104)), none⟩,
  ⟨some 10, .alloc 4 [.int .i64 0, .int .i64 0, .int .i64 0, .str []], none⟩,
  ⟨none, .stA true 4 (.t 10) (.t 105), none⟩]
def sched_Right_r22 : List AOper := [
  ⟨some 106, .val (.field 1 (.t 9)), none⟩,
  ⟨some 107, .val (.load1 (.t 106)), none⟩,
  ⟨some 108, .val (.field 1 (.t 10)), none⟩,
  ⟨some 109, .val (.load1 (.t 108)), none⟩,
  ⟨some 110, .val (.bin .neq false (.t 107) (.t 109)), none⟩,
  ⟨some 111, .val (.mov (.t 110)), none⟩,
  ⟨some 112, .val (.field 2 (.t 9)), some (111, false)⟩,
  ⟨some 113, .val (.load1 (.t 112)), some (111, false)⟩,
  ⟨some 114, .val (.field 2 (.t 10)), some (111, false)⟩,
  ⟨some 115, .val (.load1 (.t 114)), some (111, false)⟩,
  ⟨some 116, .val (.bin .neq false (.t 113) (.t 115)), some (111, false)⟩,
  ⟨some 117, .val (.por (.t 111) (.t 116)), none⟩,
  ⟨some 118, .val (.mov (.t 117)), none⟩,
  ⟨some 119, .val (.field 3 (.t 9)), some (118, false)⟩,
  ⟨some 120, .val (.load1 (.t 119)), some (118, false)⟩,
  ⟨some 121, .val (.field 3 (.t 10)), some (118, false)⟩,
  ⟨some 122, .val (.load1 (.t 121)), some (118, false)⟩,
  ⟨some 123, .val (.bin .neq false (.t 120) (.t 122)), some (118, false)⟩,
  ⟨some 124, .val (.por (.t 118) (.t 123)), none⟩]
def sched_Right_r23 : List AOper := [
  ⟨some 2, .val (.mov (.k (.bool false))), none⟩]
def sched_Right_r24 : List AOper := [
  ⟨some 125, .val (.field 0 (.t 9)), none⟩,
  ⟨some 126, .val (.load1 (.t 125)), none⟩,
  ⟨some 127, .val (.bin .lss false (.t 126) (.k (.int .i64 0))), none⟩,
  ⟨some 128, .val (.mov (.t 127)), none⟩,
  ⟨some 129, .val (.field 0 (.t 9)), some (128, false)⟩,
  ⟨some 130, .val (.load1 (.t 129)), some (128, false)⟩,
  ⟨some 131, .val (.field 3 (.t 1)), some (128, false)⟩,
  ⟨some 132, .val (.load1 (.t 131)), some (128, false)⟩,
  ⟨some 133, .val (.lenS (.t 132)), some (128, false)⟩,
  ⟨some 134, .val (.bin .geq false (.t 130) (.t 133)), some (128, false)⟩,
  ⟨some 135, .val (.por (.t 128) (.t 134)), none⟩,
  ⟨some 136, .val (.mov (.t 135)), none⟩,
  ⟨some 137, .val (.field 4 (.t 9)), some (136, false)⟩,
  ⟨some 138, .val (.load1 (.t 137)), some (136, false)⟩,
  ⟨some 139, .val (.bin .lss false (.t 138) (.k (.int .i64 1))), some (136, false)⟩,
  ⟨some 140, .val (.por (.t 136) (.t 139)), none⟩,
  ⟨some 141, .val (.mov (.t 140)), none⟩,
  ⟨some 142, .val (.field 4 (.t 9)), some (141, false)⟩,
  ⟨some 143, .val (.load1 (.t 142)), some (141, false)⟩,
  ⟨some 144, .val (.bin .gtr false (.t 143) (.k (.int .i64 3))), some (141, false)⟩,
  ⟨some 145, .val (.por (.t 141) (.t 144)), none⟩]
def sched_Right_r25 : List AOper := [
  ⟨some 2, .val (.mov (.k (.bool false))), none⟩]
def sched_Right_r26 : List AOper := [
  ⟨some 146, .val (.bin .add true (.t 95) (.k (.int .i64 1))), none⟩,
  ⟨some 95, .val (.mov (.t 146)), none⟩]
def sched_Right_r27 : List AOper := [
  ⟨some 2, .val (.mov (.k (.bool true))), none⟩]
def sched_Right_c (F : Nat → Nat) : ACode :=
  (.seq
    (.reg sched_Right_r0 (some ([1], [1])))
    (.seq
      (.seq
        (.reg (sched_Right_r1 F) (some ([1, 20], [1])))
        (.cond (.t 20)
          (.seq
            (.reg sched_Right_r2 (some ([2], [])))
            .ret)
          .skip))
      (.seq
        (.seq
          (.reg sched_Right_r3 (some ([1, 38], [1])))
          (.cond (.t 38)
            (.seq
              (.reg sched_Right_r4 (some ([2], [])))
              .ret)
            .skip))
        (.seq
          (.seq
            (.reg sched_Right_r5 (some ([1, 40, 41, 42], [1])))
            (.block 0
              (.loop
                (.seq
                  (.reg sched_Right_r6 (some ([1, 40, 41, 42, 43], [1])))
                  (.seq
                    (.cond (.t 43)
                      .skip
                      (.exit 0))
                    (.seq
                      (.block 1
                        (.seq
                          (.reg sched_Right_r7 (some ([1, 3, 4, 40, 41, 42], [1])))
                          (.seq
                            (.reg sched_Right_r8 (some ([1, 3, 4, 5, 40, 41, 42], [1])))
                            (.seq
                              (.seq
                                (.reg sched_Right_r9 (some ([1, 3, 4, 5, 40, 41, 42, 58], [1])))
                                (.cond (.t 58)
                                  (.seq
                                    (.reg sched_Right_r10 (some ([2], [])))
                                    .ret)
                                  .skip))
                              (.seq
                                (.reg sched_Right_r11 (some ([1, 3, 5, 40, 41, 42, 59, 60, 61], [1])))
                                (.block 2
                                  (.loop
                                    (.seq
                                      (.reg sched_Right_r12 (some ([1, 3, 5, 40, 41, 42, 59, 60, 61, 62], [1])))
                                      (.seq
                                        (.cond (.t 62)
                                          .skip
                                          (.exit 2))
                                        (.seq
                                          (.block 3
                                            (.seq
                                              (.reg sched_Right_r13 (some ([1, 3, 5, 6, 7, 40, 41, 42, 59, 60, 61], [1, 7])))
                                              (.seq
                                                (.regD (sched_Right_r14 F) [(6, 7), (6, 8), (6, 9), (6, 10)] (some ([1, 3, 5, 40, 41, 42, 59, 60, 61, 89], [1])))
                                                (.cond (.t 89)
                                                  (.seq
                                                    (.reg sched_Right_r15 (some ([2], [])))
                                                    .ret)
                                                  .skip))))
                                          (.reg sched_Right_r16 (some ([1, 3, 5, 40, 41, 42, 59, 60, 61], [1])))))))))))))
                      (.reg sched_Right_r17 (some ([1, 40, 41, 42], [1])))))))))
          (.seq
            (.seq
              (.reg sched_Right_r18 (some ([1, 93, 94, 95], [1])))
              (.block 4
                (.loop
                  (.seq
                    (.reg sched_Right_r19 (some ([1, 93, 94, 95, 96], [1])))
                    (.seq
                      (.cond (.t 96)
                        .skip
                        (.exit 4))
                      (.seq
                        (.block 5
                          (.seq
                            (.reg sched_Right_r20 (some ([1, 8, 9, 93, 94, 95], [1, 9])))
                            (.seq
                              (.reg sched_Right_r21 (some ([1, 9, 10, 93, 94, 95], [1, 9, 10])))
                              (.seq
                                (.seq
                                  (.reg sched_Right_r22 (some ([1, 9, 93, 94, 95, 124], [1, 9])))
                                  (.cond (.t 124)
                                    (.seq
                                      (.reg sched_Right_r23 (some ([2], [])))
                                      .ret)
                                    .skip))
                                (.seq
                                  (.reg sched_Right_r24 (some ([1, 93, 94, 95, 145], [1])))
                                  (.cond (.t 145)
                                    (.seq
                                      (.reg sched_Right_r25 (some ([2], [])))
                                      .ret)
                                    .skip))))))
                        (.reg sched_Right_r26 (some ([1, 93, 94, 95], [1])))))))))
            (.seq
              (.reg sched_Right_r27 (some ([2], [])))
              .ret))))))
def sched_Right_k (P : Program) (F : Nat → Nat) : Prop := chkFn P (F 187) 1 (sched_Right_c F) [2] = true
def sched_request_r0 : List AOper := [
  ⟨some 1, .box 5 (.t 0), none⟩,
  ⟨some 2, .val (.mov (.k (.bool false))), none⟩]
def sched_request_r1 : List AOper := [
  ⟨some 3, .val (.field 1 (.t 1)), none⟩,
  ⟨some 4, .val (.load1 (.t 3)), none⟩]
def sched_request_r2 : List AOper := [
  ⟨some 6, .val (.bin .eql false (.t 4) (.k (.int .i64 1))), none⟩,
  ⟨some 5, .val (.mov (.t 6)), none⟩]
def sched_request_r3 : List AOper := [
  ⟨some 7, .val (.field 2 (.t 1)), none⟩,
  ⟨some 8, .val (.load1 (.t 7)), none⟩,
  ⟨some 9, .val (.bin .geq false (.t 8) (.k (.int .i64 1))), none⟩,
  ⟨some 10, .val (.mov (.t 9)), none⟩,
  ⟨some 11, .val (.field 2 (.t 1)), some (10, true)⟩,
  ⟨some 12, .val (.load1 (.t 11)), some (10, true)⟩,
  ⟨some 13, .val (.bin .leq false (.t 12) (.k (.int .i64 16))), some (10, true)⟩,
  ⟨some 14, .val (.pand (.t 10) (.t 13)), none⟩,
  ⟨some 15, .val (.mov (.t 14)), none⟩,
  ⟨some 16, .val (.field 3 (.t 1)), some (15, true)⟩,
  ⟨some 17, .val (.load1 (.t 16)), some (15, true)⟩,
  ⟨some 18, .val (.bin .eql false (.t 17) (.k (.str []))), some (15, true)⟩,
  ⟨some 19, .val (.pand (.t 15) (.t 18)), none⟩,
  ⟨some 2, .val (.mov (.t 19)), none⟩]
def sched_request_r4 : List AOper := [
  ⟨some 21, .val (.bin .eql false (.t 4) (.k (.int .i64 2))), none⟩,
  ⟨some 20, .val (.mov (.t 21)), none⟩]
def sched_request_r5 : List AOper := [
  ⟨some 22, .val (.field 2 (.t 1)), none⟩,
  ⟨some 23, .val (.load1 (.t 22)), none⟩,
  ⟨some 24, .val (.bin .geq false (.t 23) (.k (.int .i64 1))), none⟩,
  ⟨some 25, .val (.mov (.t 24)), none⟩,
  ⟨some 26, .val (.field 2 (.t 1)), some (25, true)⟩,
  ⟨some 27, .val (.load1 (.t 26)), some (25, true)⟩,
  ⟨some 28, .val (.bin .leq false (.t 27) (.k (.int .i64 16))), some (25, true)⟩,
  ⟨some 29, .val (.pand (.t 25) (.t 28)), none⟩,
  ⟨some 30, .val (.mov (.t 29)), none⟩,
  ⟨some 31, .val (.field 3 (.t 1)), some (30, true)⟩,
  ⟨some 32, .val (.load1 (.t 31)), some (30, true)⟩,
  ⟨some 33, .val (.lenT (.t 32)), some (30, true)⟩,
  ⟨some 34, .val (.bin .eql false (.t 33) (.k (.int .i64 32))), some (30, true)⟩,
  ⟨some 35, .val (.pand (.t 30) (.t 34)), none⟩,
  ⟨some 2, .val (.mov (.t 35)), none⟩]
def sched_request_r6 : List AOper := [
  ⟨some 37, .val (.bin .eql false (.t 4) (.k (.int .i64 3))), none⟩,
  ⟨some 36, .val (.mov (.t 37)), none⟩]
def sched_request_r7 : List AOper := [
  ⟨some 38, .val (.field 2 (.t 1)), none⟩,
  ⟨some 39, .val (.load1 (.t 38)), none⟩,
  ⟨some 40, .val (.bin .eql false (.t 39) (.k (.int .i64 0))), none⟩,
  ⟨some 41, .val (.mov (.t 40)), none⟩,
  ⟨some 42, .val (.field 3 (.t 1)), some (41, true)⟩,
  ⟨some 43, .val (.load1 (.t 42)), some (41, true)⟩,
  ⟨some 44, .val (.bin .eql false (.t 43) (.k (.str []))), some (41, true)⟩,
  ⟨some 45, .val (.pand (.t 41) (.t 44)), none⟩,
  ⟨some 2, .val (.mov (.t 45)), none⟩]
def sched_request_r8 : List AOper := [
  ⟨some 2, .val (.mov (.k (.bool false))), none⟩]
def sched_request_c : ACode :=
  (.seq
    (.reg sched_request_r0 (some ([1], [1])))
    (.seq
      (.seq
        (.reg sched_request_r1 (some ([1, 4], [1])))
        (.block 0
          (.seq
            (.reg sched_request_r2 (some ([1, 4, 5], [1])))
            (.cond (.t 5)
              (.seq
                (.reg sched_request_r3 (some ([2], [])))
                .ret)
              (.seq
                (.reg sched_request_r4 (some ([1, 4, 20], [1])))
                (.cond (.t 20)
                  (.seq
                    (.reg sched_request_r5 (some ([2], [])))
                    .ret)
                  (.seq
                    (.reg sched_request_r6 (some ([1, 36], [1])))
                    (.cond (.t 36)
                      (.seq
                        (.reg sched_request_r7 (some ([2], [])))
                        .ret)
                      .skip))))))))
      (.seq
        (.reg sched_request_r8 (some ([2], [])))
        .ret)))
def sched_request_k (P : Program) (F : Nat → Nat) : Prop := chkFn P (F 191) 1 (sched_request_c) [2] = true
def sched_cost_r0 : List AOper := [
  ⟨some 2, .val (.mov (.k (.int .i64 0))), none⟩]
def sched_cost_r1 : List AOper := [
  ⟨some 3, .val (.mov (.t 0)), none⟩]
def sched_cost_r2 : List AOper := [
  ⟨some 5, .val (.bin .eql false (.t 3) (.k (.int .i64 1))), none⟩,
  ⟨some 4, .val (.mov (.t 5)), none⟩]
def sched_cost_r3 : List AOper := [
  ⟨some 2, .val (.mov (.k (.int .i64 2))), none⟩]
def sched_cost_r4 : List AOper := [
  ⟨some 7, .val (.bin .eql false (.t 3) (.k (.int .i64 2))), none⟩,
  ⟨some 6, .val (.mov (.t 7)), none⟩]
def sched_cost_r5 : List AOper := [
  ⟨some 2, .val (.mov (.k (.int .i64 4))), none⟩]
def sched_cost_r6 : List AOper := [
  ⟨some 9, .val (.bin .eql false (.t 3) (.k (.int .i64 3))), none⟩,
  ⟨some 8, .val (.mov (.t 9)), none⟩]
def sched_cost_r7 : List AOper := [
  ⟨some 2, .val (.mov (.k (.int .i64 1))), none⟩]
def sched_cost_r8 : List AOper := [
  ⟨some 2, .val (.mov (.k (.int .i64 0))), none⟩]
def sched_cost_c : ACode :=
  (.seq
    (.reg sched_cost_r0 (some ([0], [])))
    (.seq
      (.seq
        (.reg sched_cost_r1 (some ([3], [])))
        (.block 0
          (.seq
            (.reg sched_cost_r2 (some ([3, 4], [])))
            (.cond (.t 4)
              (.seq
                (.reg sched_cost_r3 (some ([2], [])))
                .ret)
              (.seq
                (.reg sched_cost_r4 (some ([3, 6], [])))
                (.cond (.t 6)
                  (.seq
                    (.reg sched_cost_r5 (some ([2], [])))
                    .ret)
                  (.seq
                    (.reg sched_cost_r6 (some ([8], [])))
                    (.cond (.t 8)
                      (.seq
                        (.reg sched_cost_r7 (some ([2], [])))
                        .ret)
                      .skip))))))))
      (.seq
        (.reg sched_cost_r8 (some ([2], [])))
        .ret)))
def sched_cost_k (P : Program) (F : Nat → Nat) : Prop := chkFn P (F 192) 1 (sched_cost_c) [2] = true
def sl_Clone_Lsched_Job_r0 : List AOper := [
  ⟨some 2, .val (.mov (.k (.nil 1))), none⟩]
def sl_Clone_Lsched_Job_r1 : List AOper := [
  ⟨some 3, .val (.mov (.t 0)), none⟩,
  ⟨some 4, .val (.nilS (.t 3)), none⟩]
def sl_Clone_Lsched_Job_r2 : List AOper := [
  ⟨some 2, .val (.mov (.k (.nil 1))), none⟩]
def sl_Clone_Lsched_Job_r3 : List AOper := [
  ⟨some 5, .buildS 1 0 [.nil 5] [], none⟩,
  ⟨some 6, .val (.mov (.t 0)), none⟩,
  ⟨some 7, .app 1 24 (.t 5) (.t 6), none⟩,
  ⟨some 2, .val (.mov (.t 7)), none⟩]
def sl_Clone_Lsched_Job_c : ACode :=
  (.seq
    (.reg sl_Clone_Lsched_Job_r0 (some ([0], [5, 7])))
    (.seq
      (.seq
        (.reg sl_Clone_Lsched_Job_r1 (some ([0, 4], [5, 7])))
        (.cond (.t 4)
          (.seq
            (.reg sl_Clone_Lsched_Job_r2 (some ([2], [5, 7])))
            .ret)
          .skip))
      (.seq
        (.reg sl_Clone_Lsched_Job_r3 (some ([2], [5, 7])))
        .ret)))
def sl_Clone_Lsched_Job_k (P : Program) (F : Nat → Nat) : Prop := chkFn P (F 193) 1 (sl_Clone_Lsched_Job_c) [2] = true
def sl_Clone_sched_Job_r0 : List AOper := [
  ⟨some 2, .val (.mov (.k (.nil 5))), none⟩]
def sl_Clone_sched_Job_r1 : List AOper := [
  ⟨some 3, .val (.mov (.t 0)), none⟩,
  ⟨some 4, .val (.nilS (.t 3)), none⟩]
def sl_Clone_sched_Job_r2 : List AOper := [
  ⟨some 2, .val (.mov (.k (.nil 5))), none⟩]
def sl_Clone_sched_Job_r3 : List AOper := [
  ⟨some 5, .buildS 5 0 [.int .i64 0, .int .i64 0, .int .i64 0, .str [], .int .i64 0] [], none⟩,
  ⟨some 6, .val (.mov (.t 0)), none⟩,
  ⟨some 7, .app 5 48 (.t 5) (.t 6), none⟩,
  ⟨some 2, .val (.mov (.t 7)), none⟩]
def sl_Clone_sched_Job_c : ACode :=
  (.seq
    (.reg sl_Clone_sched_Job_r0 (some ([0], [5, 7])))
    (.seq
      (.seq
        (.reg sl_Clone_sched_Job_r1 (some ([0, 4], [5, 7])))
        (.cond (.t 4)
          (.seq
            (.reg sl_Clone_sched_Job_r2 (some ([2], [5, 7])))
            .ret)
          .skip))
      (.seq
        (.reg sl_Clone_sched_Job_r3 (some ([2], [5, 7])))
        .ret)))
def sl_Clone_sched_Job_k (P : Program) (F : Nat → Nat) : Prop := chkFn P (F 194) 1 (sl_Clone_sched_Job_c) [2] = true
def sl_Concat_sched_Job_r0 : List AOper := [
  ⟨some 2, .val (.mov (.k (.nil 5))), none⟩]
def sl_Concat_sched_Job_r1 : List AOper := [
  ⟨some 3, .val (.mov (.k (.int .i64 0))), none⟩]
def sl_Concat_sched_Job_r2 : List AOper := [
  ⟨some 9, .val (.mov (.t 0)), none⟩,
  ⟨some 10, .val (.lenS (.t 9)), none⟩,
  ⟨some 11, .val (.mov (.k (.int .i64 0))), none⟩]
def sl_Concat_sched_Job_r3 : List AOper := [
  ⟨some 12, .val (.bin .lss false (.t 11) (.t 10)), none⟩]
def sl_Concat_sched_Job_r4 : List AOper := [
  ⟨some 13, .val (.ixS 1 (.t 9) (.t 11)), none⟩,
  ⟨some 14, .val (.load1 (.t 13)), none⟩,
  ⟨some 5, .val (.mov (.t 14)), none⟩]
def sl_Concat_sched_Job_r5 : List AOper := [
  ⟨some 15, .val (.mov (.t 3)), none⟩,
  ⟨some 16, .val (.mov (.t 5)), none⟩,
  ⟨some 17, .val (.lenS (.t 16)), none⟩,
  ⟨some 18, .val (.bin .add true (.t 15) (.t 17)), none⟩,
  ⟨some 3, .val (.mov (.t 18)), none⟩]
def sl_Concat_sched_Job_r6 : List AOper := [
  ⟨some 19, .val (.mov (.t 3)), none⟩,
  ⟨some 20, .val (.bin .lss false (.t 19) (.k (.int .i64 0))), none⟩]
def sl_Concat_sched_Job_r8 : List AOper := [
  ⟨some 22, .val (.bin .add true (.t 11) (.k (.int .i64 1))), none⟩,
  ⟨some 11, .val (.mov (.t 22)), none⟩]
def sl_Concat_sched_Job_r9 (F : Nat → Nat) : List AOper := [
  ⟨some 23, .val (.mov (.t 3)), none⟩,
  ⟨some 24, .call (F 151) [(.k (.nil 5)), (.t 23)], none⟩,
  ⟨some 6, .val (.mov (.t 24)), none⟩]
def sl_Concat_sched_Job_r10 : List AOper := [
  ⟨some 25, .val (.mov (.t 0)), none⟩,
  ⟨some 26, .val (.lenS (.t 25)), none⟩,
  ⟨some 27, .val (.mov (.k (.int .i64 0))), none⟩]
def sl_Concat_sched_Job_r11 : List AOper := [
  ⟨some 28, .val (.bin .lss false (.t 27) (.t 26)), none⟩]
def sl_Concat_sched_Job_r12 : List AOper := [
  ⟨some 29, .val (.ixS 1 (.t 25) (.t 27)), none⟩,
  ⟨some 30, .val (.load1 (.t 29)), none⟩,
  ⟨some 8, .val (.mov (.t 30)), none⟩]
def sl_Concat_sched_Job_r13 : List AOper := [
  ⟨some 31, .val (.mov (.t 6)), none⟩,
  ⟨some 32, .val (.mov (.t 8)), none⟩,
  ⟨some 33, .app 5 48 (.t 31) (.t 32), none⟩,
  ⟨some 6, .val (.mov (.t 33)), none⟩]
def sl_Concat_sched_Job_r14 : List AOper := [
  ⟨some 34, .val (.bin .add true (.t 27) (.k (.int .i64 1))), none⟩,
  ⟨some 27, .val (.mov (.t 34)), none⟩]
def sl_Concat_sched_Job_r15 : List AOper := [
  ⟨some 35, .val (.mov (.t 6)), none⟩,
  ⟨some 2, .val (.mov (.t 35)), none⟩]
def sl_Concat_sched_Job_c (F : Nat → Nat) : ACode :=
  (.seq
    (.reg sl_Concat_sched_Job_r0 (some ([0], [33, 1024])))
    (.seq
      (.reg sl_Concat_sched_Job_r1 (some ([0, 3], [33, 1024])))
      (.seq
        (.seq
          (.reg sl_Concat_sched_Job_r2 (some ([0, 3, 9, 10, 11], [33, 1024])))
          (.block 0
            (.loop
              (.seq
                (.reg sl_Concat_sched_Job_r3 (some ([0, 3, 9, 10, 11, 12], [33, 1024])))
                (.seq
                  (.cond (.t 12)
                    .skip
                    (.exit 0))
                  (.seq
                    (.block 1
                      (.seq
                        (.reg sl_Concat_sched_Job_r4 (some ([0, 3, 5, 9, 10, 11], [33, 1024])))
                        (.seq
                          (.reg sl_Concat_sched_Job_r5 (some ([0, 3, 9, 10, 11], [33, 1024])))
                          (.seq
                            (.reg sl_Concat_sched_Job_r6 (some ([0, 3, 9, 10, 11, 20], [33, 1024])))
                            (.cond (.t 20)
                              .halt
                              .skip)))))
                    (.reg sl_Concat_sched_Job_r8 (some ([0, 3, 9, 10, 11], [33, 1024])))))))))
        (.seq
          (.reg (sl_Concat_sched_Job_r9 F) (some ([0, 6], [33, 1024])))
          (.seq
            (.seq
              (.reg sl_Concat_sched_Job_r10 (some ([6, 25, 26, 27], [33, 1024])))
              (.block 2
                (.loop
                  (.seq
                    (.reg sl_Concat_sched_Job_r11 (some ([6, 25, 26, 27, 28], [33, 1024])))
                    (.seq
                      (.cond (.t 28)
                        .skip
                        (.exit 2))
                      (.seq
                        (.block 3
                          (.seq
                            (.reg sl_Concat_sched_Job_r12 (some ([6, 8, 25, 26, 27], [33, 1024])))
                            (.reg sl_Concat_sched_Job_r13 (some ([6, 25, 26, 27], [33, 1024])))))
                        (.reg sl_Concat_sched_Job_r14 (some ([6, 25, 26, 27], [33, 1024])))))))))
            (.seq
              (.reg sl_Concat_sched_Job_r15 (some ([2], [33, 1024])))
              .ret))))))
def sl_Concat_sched_Job_k (P : Program) (F : Nat → Nat) : Prop := chkFn P (F 152) 1 (sl_Concat_sched_Job_c F) [2] = true
def sl_Grow_sched_Job_r0 : List AOper := [
  ⟨some 4, .val (.mov (.k (.nil 5))), none⟩]
def sl_Grow_sched_Job_r1 : List AOper := [
  ⟨some 5, .val (.mov (.t 1)), none⟩,
  ⟨some 6, .val (.bin .lss false (.t 5) (.k (.int .i64 0))), none⟩]
def sl_Grow_sched_Job_r3 : List AOper := [
  ⟨some 8, .val (.mov (.t 1)), none⟩,
  ⟨some 9, .val (.mov (.t 0)), none⟩,
  ⟨some 10, .val (.capS (.t 9)), none⟩,
  ⟨some 11, .val (.mov (.t 0)), none⟩,
  ⟨some 12, .val (.lenS (.t 11)), none⟩,
  ⟨some 13, .val (.bin .sub true (.t 10) (.t 12)), none⟩,
  ⟨some 14, .val (.bin .sub true (.t 8) (.t 13)), none⟩,
  ⟨some 1, .val (.mov (.t 14)), none⟩]
def sl_Grow_sched_Job_r4 : List AOper := [
  ⟨some 15, .val (.mov (.t 1)), none⟩,
  ⟨some 16, .val (.bin .gtr false (.t 15) (.k (.int .i64 0))), none⟩]
def sl_Grow_sched_Job_r5 : List AOper := [
  ⟨some 17, .val (.mov (.t 0)), none⟩,
  ⟨some 18, .val (.mov (.t 0)), none⟩,
  ⟨some 19, .val (.capS (.t 18)), none⟩,
  ⟨some 20, .val (.slS 5 (.t 17) none (some (.t 19))), none⟩,
  ⟨some 21, .val (.mov (.t 1)), none⟩,
  ⟨some 22, .appZ 5 48 [.int .i64 0, .int .i64 0, .int .i64 0, .str [], .int .i64 0] (.t 20) (.t 21), none⟩,
  ⟨some 23, .val (.mov (.t 0)), none⟩,
  ⟨some 24, .val (.lenS (.t 23)), none⟩,
  ⟨some 25, .val (.slS 5 (.t 22) none (some (.t 24))), none⟩,
  ⟨some 0, .val (.mov (.t 25)), none⟩]
def sl_Grow_sched_Job_r6 : List AOper := [
  ⟨some 26, .val (.mov (.t 0)), none⟩,
  ⟨some 4, .val (.mov (.t 26)), none⟩]
def sl_Grow_sched_Job_c : ACode :=
  (.seq
    (.reg sl_Grow_sched_Job_r0 (some ([0, 1], [22])))
    (.seq
      (.seq
        (.reg sl_Grow_sched_Job_r1 (some ([0, 1, 6], [22])))
        (.cond (.t 6)
          .halt
          .skip))
      (.seq
        (.seq
          (.reg sl_Grow_sched_Job_r3 (some ([0, 1], [22])))
          (.seq
            (.reg sl_Grow_sched_Job_r4 (some ([0, 1, 16], [22])))
            (.cond (.t 16)
              (.reg sl_Grow_sched_Job_r5 (some ([0], [22])))
              .skip)))
        (.seq
          (.reg sl_Grow_sched_Job_r6 (some ([4], [22])))
          .ret))))
def sl_Grow_sched_Job_k (P : Program) (F : Nat → Nat) : Prop := chkFn P (F 151) 2 (sl_Grow_sched_Job_c) [4] = true
end Lk.C
