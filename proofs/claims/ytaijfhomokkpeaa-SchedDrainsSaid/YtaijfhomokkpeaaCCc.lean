/-
  CCc: what these chapters need.
-/
import Derived.Test.YtaijfhomokkpeaaLkC
set_option linter.unusedSimpArgs false
set_option linter.unusedVariables false
namespace Lk.C
open Go Lk
def disk_New_r0 : List AOper := [
  ⟨some 2, .alloc 2 [.nil 1, .nil 2], none⟩,
  ⟨some 3, .val (.mov (.k (.int .i64 0))), none⟩]
def disk_New_r1 : List AOper := [
  ⟨some 6, .val (.mov (.t 0)), none⟩,
  ⟨some 7, .val (.bin .lss false (.t 6) (.k (.int .i64 1))), none⟩,
  ⟨some 8, .val (.mov (.t 7)), none⟩,
  ⟨some 9, .val (.mov (.t 0)), some (8, false)⟩,
  ⟨some 10, .val (.bin .gtr false (.t 9) (.k (.int .i64 64))), some (8, false)⟩,
  ⟨some 11, .val (.por (.t 8) (.t 10)), none⟩]
def disk_New_r2 : List AOper := [
  ⟨some 12, .val (.build 2 [.nil 1, .nil 2] []), none⟩,
  ⟨none, .stA true 2 (.t 2) (.t 12), none⟩,
  ⟨some 3, .val (.mov (.k (.int .i64 1))), none⟩]
def disk_New_r3 : List AOper := [
  ⟨some 13, .val (.mov (.t 0)), none⟩,
  ⟨some 14, .mk 1 16 [.str []] (.t 13), none⟩,
  ⟨some 4, .val (.mov (.t 14)), none⟩]
def disk_New_r4 : List AOper := [
  ⟨some 15, .val (.mov (.t 4)), none⟩,
  ⟨some 16, .val (.lenS (.t 15)), none⟩,
  ⟨some 17, .val (.mov (.k (.int .i64 0))), none⟩]
def disk_New_r5 : List AOper := [
  ⟨some 18, .val (.bin .lss false (.t 17) (.t 16)), none⟩]
def disk_New_r6 : List AOper := [
  ⟨some 19, .val (.mov (.t 17)), none⟩,
  ⟨some 5, .val (.mov (.t 19)), none⟩]
def disk_New_r7 (F : Nat → Nat) : List AOper := [
  ⟨some 20, .val (.mov (.t 4)), none⟩,
  ⟨some 21, .val (.mov (.t 5)), none⟩,
  ⟨some 22, .call (F 49) [(.k (.str [0])), (.k (.int .i64 16))], none⟩,
  ⟨some 23, .val (.ixS 1 (.t 20) (.t 21)), none⟩,
  ⟨none, .st1 false (.t 23) (.t 22), none⟩]
def disk_New_r8 : List AOper := [
  ⟨some 24, .val (.bin .add true (.t 17) (.k (.int .i64 1))), none⟩,
  ⟨some 17, .val (.mov (.t 24)), none⟩]
def disk_New_r9 : List AOper := [
  ⟨some 25, .val (.mov (.t 4)), none⟩,
  ⟨some 26, .val (.build 2 [.nil 1, .nil 2] [(0, 1, (.t 25))]), none⟩,
  ⟨none, .stA true 2 (.t 2) (.t 26), none⟩,
  ⟨some 3, .val (.mov (.k (.int .i64 0))), none⟩]
def disk_New_c (F : Nat → Nat) : ACode :=
  (.seq
    (.reg disk_New_r0 (some ([0, 2], [2, 14])))
    (.seq
      (.seq
        (.reg disk_New_r1 (some ([0, 2, 11], [2, 14])))
        (.cond (.t 11)
          (.seq
            (.reg disk_New_r2 (some ([2, 3], [2, 14])))
            .ret)
          .skip))
      (.seq
        (.reg disk_New_r3 (some ([2, 4], [2, 14])))
        (.seq
          (.seq
            (.reg disk_New_r4 (some ([2, 4, 16, 17], [2, 14])))
            (.block 0
              (.loop
                (.seq
                  (.reg disk_New_r5 (some ([2, 4, 16, 17, 18], [2, 14])))
                  (.seq
                    (.cond (.t 18)
                      .skip
                      (.exit 0))
                    (.seq
                      (.block 1
                        (.seq
                          (.reg disk_New_r6 (some ([2, 4, 5, 16, 17], [2, 14])))
                          (.reg (disk_New_r7 F) (some ([2, 4, 16, 17], [2, 14])))))
                      (.reg disk_New_r8 (some ([2, 4, 16, 17], [2, 14])))))))))
          (.seq
            (.reg disk_New_r9 (some ([2, 3], [2, 14])))
            .ret)))))
def disk_New_k (P : Program) (F : Nat → Nat) : Prop := chkFn P (F 28) 1 (disk_New_c F) [.loadA 2 (.t 2), 3] = true
def law03_awake_r0 : List AOper := [
  ⟨some 0, .val (.mov (.k (.bool false))), none⟩]
def law03_awake_r1 (F : Nat → Nat) : List AOper := [
  ⟨some 9, .call (F 28) [(.k (.int .i64 2))], none⟩,
  ⟨some 8, .val (.mov (.t 9)), none⟩,
  ⟨some 10, .val (.extr 0 (.t 8)), none⟩,
  ⟨some 11, .val (.extr 1 (.t 8)), none⟩,
  ⟨some 1, .alloc 2 [.nil 1, .nil 2], none⟩,
  ⟨none, .stA true 2 (.t 1) (.t 10), none⟩,
  ⟨some 2, .val (.mov (.t 11)), none⟩]
def law03_awake_r2 (F : Nat → Nat) : List AOper := [
  ⟨some 13, .val (.loadA 2 (.t 1)), none⟩,
  ⟨some 14, .val (.build 2 [.int .i64 0, .str []] [(0, 1, (.k (.int .i64 1))), (1, 1, (.k (.str [48, 49, 50, 51, 52, 53, 54, 55, 56, 57, 97, 98, 99, 100, 101, 102])))]), none⟩,
  ⟨some 15, .call (F 36) [(.t 13), (.t 14)], none⟩,
  ⟨some 12, .val (.mov (.t 15)), none⟩,
  ⟨some 16, .val (.extr 0 (.t 12)), none⟩,
  ⟨some 17, .val (.extr 1 (.t 12)), none⟩,
  ⟨none, .stA true 2 (.t 1) (.t 16), none⟩,
  ⟨some 3, .val (.mov (.t 17)), none⟩]
def law03_awake_r3 (F : Nat → Nat) : List AOper := [
  ⟨some 19, .val (.loadA 2 (.t 1)), none⟩,
  ⟨some 20, .call (F 37) [(.t 19), (.k (.int .i64 1))], none⟩,
  ⟨some 18, .val (.mov (.t 20)), none⟩,
  ⟨some 21, .val (.extr 0 (.t 18)), none⟩,
  ⟨some 22, .val (.extr 1 (.t 18)), none⟩,
  ⟨some 4, .val (.mov (.t 21)), none⟩,
  ⟨some 5, .val (.mov (.t 22)), none⟩]
def law03_awake_r4 (F : Nat → Nat) : List AOper := [
  ⟨some 24, .val (.loadA 2 (.t 1)), none⟩,
  ⟨some 25, .call (F 33) [(.t 24), (.k (.nil 1))], none⟩,
  ⟨some 26, .call (F 37) [(.t 25), (.k (.int .i64 1))], none⟩,
  ⟨some 23, .val (.mov (.t 26)), none⟩,
  ⟨some 27, .val (.extr 0 (.t 23)), none⟩,
  ⟨some 28, .val (.extr 1 (.t 23)), none⟩,
  ⟨some 6, .val (.mov (.t 27)), none⟩,
  ⟨some 7, .val (.mov (.t 28)), none⟩]
def law03_awake_r5 (F : Nat → Nat) : List AOper := [
  ⟨some 29, .val (.mov (.t 2)), none⟩,
  ⟨some 30, .val (.bin .eql false (.t 29) (.k (.int .i64 0))), none⟩,
  ⟨some 31, .val (.mov (.t 30)), none⟩,
  ⟨some 32, .val (.mov (.t 3)), some (31, true)⟩,
  ⟨some 33, .val (.bin .eql false (.t 32) (.k (.int .i64 0))), some (31, true)⟩,
  ⟨some 34, .val (.pand (.t 31) (.t 33)), none⟩,
  ⟨some 35, .val (.mov (.t 34)), none⟩,
  ⟨some 36, .val (.mov (.t 4)), some (35, true)⟩,
  ⟨some 37, .val (.bin .eql false (.t 36) (.k (.str [48, 49, 50, 51, 52, 53, 54, 55, 56, 57, 97, 98, 99, 100, 101, 102]))), some (35, true)⟩,
  ⟨some 38, .val (.pand (.t 35) (.t 37)), none⟩,
  ⟨some 39, .val (.mov (.t 38)), none⟩,
  ⟨some 40, .val (.mov (.t 5)), some (39, true)⟩,
  ⟨some 41, .val (.bin .eql false (.t 40) (.k (.int .i64 0))), some (39, true)⟩,
  ⟨some 42, .val (.pand (.t 39) (.t 41)), none⟩,
  ⟨some 43, .val (.mov (.t 42)), none⟩,
  ⟨some 44, .val (.mov (.t 6)), some (43, true)⟩,
  ⟨some 45, .val (.lenT (.t 44)), some (43, true)⟩,
  ⟨some 46, .val (.bin .eql false (.t 45) (.k (.int .i64 16))), some (43, true)⟩,
  ⟨some 47, .val (.pand (.t 43) (.t 46)), none⟩,
  ⟨some 48, .val (.mov (.t 47)), none⟩,
  ⟨some 49, .val (.mov (.t 6)), some (48, true)⟩,
  ⟨some 50, .val (.idx (.t 49) (.k (.int .i64 0))), some (48, true)⟩,
  ⟨some 51, .val (.bin .eql false (.t 50) (.k (.int .u8 0))), some (48, true)⟩,
  ⟨some 52, .val (.pand (.t 48) (.t 51)), none⟩,
  ⟨some 53, .val (.mov (.t 52)), none⟩,
  ⟨some 54, .val (.mov (.t 7)), some (53, true)⟩,
  ⟨some 55, .val (.bin .eql false (.t 54) (.k (.int .i64 0))), some (53, true)⟩,
  ⟨some 56, .val (.pand (.t 53) (.t 55)), none⟩,
  ⟨some 57, .val (.mov (.t 56)), none⟩,
  ⟨some 58, .val (.loadA 2 (.t 1)), some (57, true)⟩,
  ⟨some 59, .call (F 40) [(.t 58)], some (57, true)⟩,
  ⟨some 60, .val (.pand (.t 57) (.t 59)), none⟩,
  ⟨some 0, .val (.mov (.t 60)), none⟩]
def law03_awake_c (F : Nat → Nat) : ACode :=
  (.seq
    (.reg law03_awake_r0 (some ([], [])))
    (.seq
      (.reg (law03_awake_r1 F) (some ([1, 2], [1])))
      (.seq
        (.reg (law03_awake_r2 F) (some ([1, 2, 3], [1])))
        (.seq
          (.reg (law03_awake_r3 F) (some ([1, 2, 3, 4, 5], [1])))
          (.seq
            (.reg (law03_awake_r4 F) (some ([1, 2, 3, 4, 5, 6, 7], [1])))
            (.seq
              (.reg (law03_awake_r5 F) (some ([0], [])))
              .ret))))))
def law03_awake_k (P : Program) (F : Nat → Nat) : Prop := chkFn P (F 29) 0 (law03_awake_c F) [0] = true
def ref03_Small_r0 : List AOper := [
  ⟨some 1, .box 2 (.t 0), none⟩,
  ⟨some 2, .val (.mov (.k (.bool false))), none⟩]
def ref03_Small_r1 : List AOper := [
  ⟨some 5, .val (.field 0 (.t 1)), none⟩,
  ⟨some 6, .val (.load1 (.t 5)), none⟩,
  ⟨some 7, .val (.lenS (.t 6)), none⟩,
  ⟨some 8, .val (.bin .gtr false (.t 7) (.k (.int .i64 80))), none⟩,
  ⟨some 9, .val (.mov (.t 8)), none⟩,
  ⟨some 10, .val (.field 1 (.t 1)), some (9, false)⟩,
  ⟨some 11, .val (.load1 (.t 10)), some (9, false)⟩,
  ⟨some 12, .val (.lenS (.t 11)), some (9, false)⟩,
  ⟨some 13, .val (.bin .gtr false (.t 12) (.k (.int .i64 220))), some (9, false)⟩,
  ⟨some 14, .val (.por (.t 9) (.t 13)), none⟩]
def ref03_Small_r2 : List AOper := [
  ⟨some 2, .val (.mov (.k (.bool false))), none⟩]
def ref03_Small_r3 : List AOper := [
  ⟨some 3, .val (.mov (.k (.int .i64 0))), none⟩]
def ref03_Small_r4 : List AOper := [
  ⟨some 15, .val (.mov (.t 3)), none⟩,
  ⟨some 16, .val (.field 0 (.t 1)), none⟩,
  ⟨some 17, .val (.load1 (.t 16)), none⟩,
  ⟨some 18, .val (.lenS (.t 17)), none⟩,
  ⟨some 19, .val (.bin .lss false (.t 15) (.t 18)), none⟩]
def ref03_Small_r6 : List AOper := [
  ⟨some 22, .val (.field 0 (.t 1)), none⟩,
  ⟨some 23, .val (.load1 (.t 22)), none⟩,
  ⟨some 24, .val (.mov (.t 3)), none⟩,
  ⟨some 25, .val (.ixS 1 (.t 23) (.t 24)), none⟩,
  ⟨some 26, .val (.load1 (.t 25)), none⟩,
  ⟨some 27, .val (.lenT (.t 26)), none⟩,
  ⟨some 28, .val (.bin .gtr false (.t 27) (.k (.int .i64 40))), none⟩]
def ref03_Small_r7 : List AOper := [
  ⟨some 2, .val (.mov (.k (.bool false))), none⟩]
def ref03_Small_r5 : List AOper := [
  ⟨some 20, .val (.mov (.t 3)), none⟩,
  ⟨some 21, .val (.bin .add true (.t 20) (.k (.int .i64 1))), none⟩,
  ⟨some 3, .val (.mov (.t 21)), none⟩]
def ref03_Small_r8 : List AOper := [
  ⟨some 4, .val (.mov (.k (.int .i64 0))), none⟩]
def ref03_Small_r9 : List AOper := [
  ⟨some 29, .val (.mov (.t 4)), none⟩,
  ⟨some 30, .val (.field 1 (.t 1)), none⟩,
  ⟨some 31, .val (.load1 (.t 30)), none⟩,
  ⟨some 32, .val (.lenS (.t 31)), none⟩,
  ⟨some 33, .val (.bin .lss false (.t 29) (.t 32)), none⟩]
def ref03_Small_r11 : List AOper := [
  ⟨some 36, .val (.field 1 (.t 1)), none⟩,
  ⟨some 37, .val (.load1 (.t 36)), none⟩,
  ⟨some 38, .val (.mov (.t 4)), none⟩,
  ⟨some 39, .val (.ixS 2 (.t 37) (.t 38)), none⟩,
  ⟨some 40, .val (.field 1 (.t 39)), none⟩,
  ⟨some 41, .val (.load1 (.t 40)), none⟩,
  ⟨some 42, .val (.lenT (.t 41)), none⟩,
  ⟨some 43, .val (.bin .gtr false (.t 42) (.k (.int .i64 40))), none⟩]
def ref03_Small_r12 : List AOper := [
  ⟨some 2, .val (.mov (.k (.bool false))), none⟩]
def ref03_Small_r10 : List AOper := [
  ⟨some 34, .val (.mov (.t 4)), none⟩,
  ⟨some 35, .val (.bin .add true (.t 34) (.k (.int .i64 1))), none⟩,
  ⟨some 4, .val (.mov (.t 35)), none⟩]
def ref03_Small_r13 : List AOper := [
  ⟨some 2, .val (.mov (.k (.bool true))), none⟩]
def ref03_Small_c : ACode :=
  (.seq
    (.reg ref03_Small_r0 (some ([1], [1])))
    (.seq
      (.seq
        (.reg ref03_Small_r1 (some ([1, 14], [1])))
        (.cond (.t 14)
          (.seq
            (.reg ref03_Small_r2 (some ([2], [])))
            .ret)
          .skip))
      (.seq
        (.seq
          (.reg ref03_Small_r3 (some ([1, 3], [1])))
          (.block 0
            (.loop
              (.seq
                (.seq
                  (.reg ref03_Small_r4 (some ([1, 3, 19], [1])))
                  (.cond (.t 19)
                    .skip
                    (.exit 0)))
                (.seq
                  (.block 1
                    (.seq
                      (.reg ref03_Small_r6 (some ([1, 3, 28], [1])))
                      (.cond (.t 28)
                        (.seq
                          (.reg ref03_Small_r7 (some ([2], [])))
                          .ret)
                        .skip)))
                  (.reg ref03_Small_r5 (some ([1, 3], [1]))))))))
        (.seq
          (.seq
            (.reg ref03_Small_r8 (some ([1, 4], [1])))
            (.block 2
              (.loop
                (.seq
                  (.seq
                    (.reg ref03_Small_r9 (some ([1, 4, 33], [1])))
                    (.cond (.t 33)
                      .skip
                      (.exit 2)))
                  (.seq
                    (.block 3
                      (.seq
                        (.reg ref03_Small_r11 (some ([1, 4, 43], [1])))
                        (.cond (.t 43)
                          (.seq
                            (.reg ref03_Small_r12 (some ([2], [])))
                            .ret)
                          .skip)))
                    (.reg ref03_Small_r10 (some ([1, 4], [1]))))))))
          (.seq
            (.reg ref03_Small_r13 (some ([2], [])))
            .ret)))))
def ref03_Small_k (P : Program) (F : Nat → Nat) : Prop := chkFn P (F 31) 1 (ref03_Small_c) [2] = true
def ref03_Right_r0 : List AOper := [
  ⟨some 1, .box 2 (.t 0), none⟩,
  ⟨some 2, .val (.mov (.k (.bool false))), none⟩]
def ref03_Right_r1 : List AOper := [
  ⟨some 6, .val (.field 0 (.t 1)), none⟩,
  ⟨some 7, .val (.load1 (.t 6)), none⟩,
  ⟨some 8, .val (.lenS (.t 7)), none⟩,
  ⟨some 9, .val (.bin .lss false (.t 8) (.k (.int .i64 1))), none⟩,
  ⟨some 10, .val (.mov (.t 9)), none⟩,
  ⟨some 11, .val (.field 0 (.t 1)), some (10, false)⟩,
  ⟨some 12, .val (.load1 (.t 11)), some (10, false)⟩,
  ⟨some 13, .val (.lenS (.t 12)), some (10, false)⟩,
  ⟨some 14, .val (.bin .gtr false (.t 13) (.k (.int .i64 64))), some (10, false)⟩,
  ⟨some 15, .val (.por (.t 10) (.t 14)), none⟩,
  ⟨some 16, .val (.mov (.t 15)), none⟩,
  ⟨some 17, .val (.field 1 (.t 1)), some (16, false)⟩,
  ⟨some 18, .val (.load1 (.t 17)), some (16, false)⟩,
  ⟨some 19, .val (.lenS (.t 18)), some (16, false)⟩,
  ⟨some 20, .val (.bin .gtr false (.t 19) (.k (.int .i64 200))), some (16, false)⟩,
  ⟨some 21, .val (.por (.t 16) (.t 20)), none⟩]
def ref03_Right_r2 : List AOper := [
  ⟨some 2, .val (.mov (.k (.bool false))), none⟩]
def ref03_Right_r3 : List AOper := [
  ⟨some 3, .val (.mov (.k (.int .i64 0))), none⟩]
def ref03_Right_r4 : List AOper := [
  ⟨some 22, .val (.mov (.t 3)), none⟩,
  ⟨some 23, .val (.field 0 (.t 1)), none⟩,
  ⟨some 24, .val (.load1 (.t 23)), none⟩,
  ⟨some 25, .val (.lenS (.t 24)), none⟩,
  ⟨some 26, .val (.bin .lss false (.t 22) (.t 25)), none⟩]
def ref03_Right_r6 : List AOper := [
  ⟨some 29, .val (.field 0 (.t 1)), none⟩,
  ⟨some 30, .val (.load1 (.t 29)), none⟩,
  ⟨some 31, .val (.mov (.t 3)), none⟩,
  ⟨some 32, .val (.ixS 1 (.t 30) (.t 31)), none⟩,
  ⟨some 33, .val (.load1 (.t 32)), none⟩,
  ⟨some 34, .val (.lenT (.t 33)), none⟩,
  ⟨some 35, .val (.bin .neq false (.t 34) (.k (.int .i64 16))), none⟩]
def ref03_Right_r7 : List AOper := [
  ⟨some 2, .val (.mov (.k (.bool false))), none⟩]
def ref03_Right_r5 : List AOper := [
  ⟨some 27, .val (.mov (.t 3)), none⟩,
  ⟨some 28, .val (.bin .add true (.t 27) (.k (.int .i64 1))), none⟩,
  ⟨some 3, .val (.mov (.t 28)), none⟩]
def ref03_Right_r8 : List AOper := [
  ⟨some 4, .val (.mov (.k (.int .i64 0))), none⟩]
def ref03_Right_r9 : List AOper := [
  ⟨some 36, .val (.mov (.t 4)), none⟩,
  ⟨some 37, .val (.field 1 (.t 1)), none⟩,
  ⟨some 38, .val (.load1 (.t 37)), none⟩,
  ⟨some 39, .val (.lenS (.t 38)), none⟩,
  ⟨some 40, .val (.bin .lss false (.t 36) (.t 39)), none⟩]
def ref03_Right_r11 : List AOper := [
  ⟨some 43, .val (.field 1 (.t 1)), none⟩,
  ⟨some 44, .val (.load1 (.t 43)), none⟩,
  ⟨some 45, .val (.mov (.t 4)), none⟩,
  ⟨some 46, .val (.ixS 2 (.t 44) (.t 45)), none⟩,
  ⟨some 47, .val (.loadA 2 (.t 46)), none⟩,
  ⟨some 5, .alloc 2 [.int .i64 0, .str []], none⟩,
  ⟨none, .stA true 2 (.t 5) (.t 47), none⟩]
def ref03_Right_r12 : List AOper := [
  ⟨some 48, .val (.field 0 (.t 5)), none⟩,
  ⟨some 49, .val (.load1 (.t 48)), none⟩,
  ⟨some 50, .val (.bin .lss false (.t 49) (.k (.int .i64 0))), none⟩,
  ⟨some 51, .val (.mov (.t 50)), none⟩,
  ⟨some 52, .val (.field 0 (.t 5)), some (51, false)⟩,
  ⟨some 53, .val (.load1 (.t 52)), some (51, false)⟩,
  ⟨some 54, .val (.field 0 (.t 1)), some (51, false)⟩,
  ⟨some 55, .val (.load1 (.t 54)), some (51, false)⟩,
  ⟨some 56, .val (.lenS (.t 55)), some (51, false)⟩,
  ⟨some 57, .val (.bin .geq false (.t 53) (.t 56)), some (51, false)⟩,
  ⟨some 58, .val (.por (.t 51) (.t 57)), none⟩,
  ⟨some 59, .val (.mov (.t 58)), none⟩,
  ⟨some 60, .val (.field 1 (.t 5)), some (59, false)⟩,
  ⟨some 61, .val (.load1 (.t 60)), some (59, false)⟩,
  ⟨some 62, .val (.lenT (.t 61)), some (59, false)⟩,
  ⟨some 63, .val (.bin .neq false (.t 62) (.k (.int .i64 16))), some (59, false)⟩,
  ⟨some 64, .val (.por (.t 59) (.t 63)), none⟩]
def ref03_Right_r13 : List AOper := [
  ⟨some 2, .val (.mov (.k (.bool false))), none⟩]
def ref03_Right_r10 : List AOper := [
  ⟨some 41, .val (.mov (.t 4)), none⟩,
  ⟨some 42, .val (.bin .add true (.t 41) (.k (.int .i64 1))), none⟩,
  ⟨some 4, .val (.mov (.t 42)), none⟩]
def ref03_Right_r14 : List AOper := [
  ⟨some 2, .val (.mov (.k (.bool true))), none⟩]
def ref03_Right_c : ACode :=
  (.seq
    (.reg ref03_Right_r0 (some ([1], [1])))
    (.seq
      (.seq
        (.reg ref03_Right_r1 (some ([1, 21], [1])))
        (.cond (.t 21)
          (.seq
            (.reg ref03_Right_r2 (some ([2], [])))
            .ret)
          .skip))
      (.seq
        (.seq
          (.reg ref03_Right_r3 (some ([1, 3], [1])))
          (.block 0
            (.loop
              (.seq
                (.seq
                  (.reg ref03_Right_r4 (some ([1, 3, 26], [1])))
                  (.cond (.t 26)
                    .skip
                    (.exit 0)))
                (.seq
                  (.block 1
                    (.seq
                      (.reg ref03_Right_r6 (some ([1, 3, 35], [1])))
                      (.cond (.t 35)
                        (.seq
                          (.reg ref03_Right_r7 (some ([2], [])))
                          .ret)
                        .skip)))
                  (.reg ref03_Right_r5 (some ([1, 3], [1]))))))))
        (.seq
          (.seq
            (.reg ref03_Right_r8 (some ([1, 4], [1])))
            (.block 2
              (.loop
                (.seq
                  (.seq
                    (.reg ref03_Right_r9 (some ([1, 4, 40], [1])))
                    (.cond (.t 40)
                      .skip
                      (.exit 2)))
                  (.seq
                    (.block 3
                      (.seq
                        (.reg ref03_Right_r11 (some ([1, 4, 5], [1, 5])))
                        (.seq
                          (.reg ref03_Right_r12 (some ([1, 4, 64], [1])))
                          (.cond (.t 64)
                            (.seq
                              (.reg ref03_Right_r13 (some ([2], [])))
                              .ret)
                            .skip))))
                    (.reg ref03_Right_r10 (some ([1, 4], [1]))))))))
          (.seq
            (.reg ref03_Right_r14 (some ([2], [])))
            .ret)))))
def ref03_Right_k (P : Program) (F : Nat → Nat) : Prop := chkFn P (F 32) 1 (ref03_Right_c) [2] = true
def disk_Crash_r0 : List AOper := [
  ⟨some 2, .box 2 (.t 0), none⟩,
  ⟨some 4, .alloc 2 [.nil 1, .nil 2], none⟩]
def disk_Crash_r1 (F : Nat → Nat) : List AOper := [
  ⟨some 11, .val (.loadA 2 (.t 2)), none⟩,
  ⟨some 12, .call (F 40) [(.t 11)], none⟩,
  ⟨some 13, .val (.not (.t 12)), none⟩]
def disk_Crash_r2 : List AOper := [
  ⟨some 14, .val (.loadA 2 (.t 2)), none⟩,
  ⟨none, .stA true 2 (.t 4) (.t 14), none⟩]
def disk_Crash_r3 : List AOper := [
  ⟨some 15, .val (.field 1 (.t 2)), none⟩,
  ⟨some 16, .val (.load1 (.t 15)), none⟩,
  ⟨some 17, .val (.lenS (.t 16)), none⟩,
  ⟨some 18, .mk 1 1 [.bool false] (.t 17), none⟩,
  ⟨some 5, .val (.mov (.t 18)), none⟩]
def disk_Crash_r4 : List AOper := [
  ⟨some 19, .val (.mov (.t 1)), none⟩,
  ⟨some 20, .val (.lenS (.t 19)), none⟩,
  ⟨some 21, .val (.mov (.k (.int .i64 0))), none⟩]
def disk_Crash_r5 : List AOper := [
  ⟨some 22, .val (.bin .lss false (.t 21) (.t 20)), none⟩]
def disk_Crash_r6 : List AOper := [
  ⟨some 23, .val (.ixS 1 (.t 19) (.t 21)), none⟩,
  ⟨some 24, .val (.load1 (.t 23)), none⟩,
  ⟨some 7, .val (.mov (.t 24)), none⟩]
def disk_Crash_r7 : List AOper := [
  ⟨some 25, .val (.mov (.t 7)), none⟩,
  ⟨some 26, .val (.bin .geq false (.t 25) (.k (.int .i64 0))), none⟩,
  ⟨some 27, .val (.mov (.t 26)), none⟩,
  ⟨some 28, .val (.mov (.t 7)), some (27, true)⟩,
  ⟨some 29, .val (.mov (.t 5)), some (27, true)⟩,
  ⟨some 30, .val (.lenS (.t 29)), some (27, true)⟩,
  ⟨some 31, .val (.bin .lss false (.t 28) (.t 30)), some (27, true)⟩,
  ⟨some 32, .val (.pand (.t 27) (.t 31)), none⟩]
def disk_Crash_r8 : List AOper := [
  ⟨some 33, .val (.mov (.t 5)), none⟩,
  ⟨some 34, .val (.mov (.t 7)), none⟩,
  ⟨some 35, .val (.ixS 1 (.t 33) (.t 34)), none⟩,
  ⟨none, .st1 false (.t 35) (.k (.bool true)), none⟩]
def disk_Crash_r9 : List AOper := [
  ⟨some 36, .val (.bin .add true (.t 21) (.k (.int .i64 1))), none⟩,
  ⟨some 21, .val (.mov (.t 36)), none⟩]
def disk_Crash_r10 : List AOper := [
  ⟨some 8, .val (.mov (.k (.nil 2))), none⟩]
def disk_Crash_r11 : List AOper := [
  ⟨some 37, .val (.field 1 (.t 2)), none⟩,
  ⟨some 38, .val (.load1 (.t 37)), none⟩,
  ⟨some 39, .val (.lenS (.t 38)), none⟩,
  ⟨some 40, .val (.mov (.k (.int .i64 0))), none⟩]
def disk_Crash_r12 : List AOper := [
  ⟨some 41, .val (.bin .lss false (.t 40) (.t 39)), none⟩]
def disk_Crash_r13 : List AOper := [
  ⟨some 42, .val (.mov (.t 40)), none⟩,
  ⟨some 43, .val (.ixS 2 (.t 38) (.t 40)), none⟩,
  ⟨some 44, .val (.loadA 2 (.t 43)), none⟩,
  ⟨some 10, .alloc 2 [.int .i64 0, .str []], none⟩,
  ⟨some 9, .val (.mov (.t 42)), none⟩,
  ⟨none, .stA true 2 (.t 10) (.t 44), none⟩]
def disk_Crash_r14 : List AOper := [
  ⟨some 45, .val (.mov (.t 5)), none⟩,
  ⟨some 46, .val (.mov (.t 9)), none⟩,
  ⟨some 47, .val (.ixS 1 (.t 45) (.t 46)), none⟩,
  ⟨some 48, .val (.load1 (.t 47)), none⟩]
def disk_Crash_r15 : List AOper := [
  ⟨some 49, .val (.mov (.t 8)), none⟩,
  ⟨some 50, .val (.loadA 2 (.t 10)), none⟩,
  ⟨some 51, .buildS 2 1 [.int .i64 0, .str []] [(0, (.t 50))], none⟩,
  ⟨some 52, .app 2 24 (.t 49) (.t 51), none⟩,
  ⟨some 8, .val (.mov (.t 52)), none⟩]
def disk_Crash_r16 : List AOper := [
  ⟨some 53, .val (.bin .add true (.t 40) (.k (.int .i64 1))), none⟩,
  ⟨some 40, .val (.mov (.t 53)), none⟩]
def disk_Crash_r17 (F : Nat → Nat) : List AOper := [
  ⟨some 54, .val (.loadA 2 (.t 2)), none⟩,
  ⟨some 55, .val (.mov (.t 8)), none⟩,
  ⟨some 56, .call (F 50) [(.t 54), (.t 55)], none⟩,
  ⟨none, .stA true 2 (.t 4) (.t 56), none⟩]
def disk_Crash_c (F : Nat → Nat) : ACode :=
  (.seq
    (.reg disk_Crash_r0 (some ([1, 2, 4], [2, 4, 18, 51, 52])))
    (.seq
      (.seq
        (.reg (disk_Crash_r1 F) (some ([1, 2, 4, 13], [2, 4, 18, 51, 52])))
        (.cond (.t 13)
          (.seq
            (.reg disk_Crash_r2 (some ([4], [4, 18, 51, 52])))
            .ret)
          .skip))
      (.seq
        (.reg disk_Crash_r3 (some ([1, 2, 4, 5], [2, 4, 18, 51, 52])))
        (.seq
          (.seq
            (.reg disk_Crash_r4 (some ([2, 4, 5, 19, 20, 21], [2, 4, 18, 51, 52])))
            (.block 0
              (.loop
                (.seq
                  (.reg disk_Crash_r5 (some ([2, 4, 5, 19, 20, 21, 22], [2, 4, 18, 51, 52])))
                  (.seq
                    (.cond (.t 22)
                      .skip
                      (.exit 0))
                    (.seq
                      (.block 1
                        (.seq
                          (.reg disk_Crash_r6 (some ([2, 4, 5, 7, 19, 20, 21], [2, 4, 18, 51, 52])))
                          (.seq
                            (.reg disk_Crash_r7 (some ([2, 4, 5, 7, 19, 20, 21, 32], [2, 4, 18, 51, 52])))
                            (.cond (.t 32)
                              (.reg disk_Crash_r8 (some ([2, 4, 5, 19, 20, 21], [2, 4, 18, 51, 52])))
                              .skip))))
                      (.reg disk_Crash_r9 (some ([2, 4, 5, 19, 20, 21], [2, 4, 18, 51, 52])))))))))
          (.seq
            (.reg disk_Crash_r10 (some ([2, 4, 5, 8], [2, 4, 18, 51, 52])))
            (.seq
              (.seq
                (.reg disk_Crash_r11 (some ([2, 4, 5, 8, 38, 39, 40], [2, 4, 18, 51, 52])))
                (.block 2
                  (.loop
                    (.seq
                      (.reg disk_Crash_r12 (some ([2, 4, 5, 8, 38, 39, 40, 41], [2, 4, 18, 51, 52])))
                      (.seq
                        (.cond (.t 41)
                          .skip
                          (.exit 2))
                        (.seq
                          (.block 3
                            (.seq
                              (.reg disk_Crash_r13 (some ([2, 4, 5, 8, 9, 10, 38, 39, 40], [2, 4, 10, 18, 51, 52])))
                              (.seq
                                (.reg disk_Crash_r14 (some ([2, 4, 5, 8, 10, 38, 39, 40, 48], [2, 4, 10, 18, 51, 52])))
                                (.cond (.t 48)
                                  (.reg disk_Crash_r15 (some ([2, 4, 5, 8, 38, 39, 40], [2, 4, 18, 51, 52])))
                                  .skip))))
                          (.reg disk_Crash_r16 (some ([2, 4, 5, 8, 38, 39, 40], [2, 4, 18, 51, 52])))))))))
              (.seq
                (.reg (disk_Crash_r17 F) (some ([4], [4, 18, 51, 52])))
                .ret)))))))
def disk_Crash_k (P : Program) (F : Nat → Nat) : Prop := chkFn P (F 33) 2 (disk_Crash_c F) [.loadA 2 (.t 4)] = true
def disk_Put_r0 : List AOper := [
  ⟨some 2, .box 2 (.t 0), none⟩,
  ⟨some 3, .box 2 (.t 1), none⟩,
  ⟨some 4, .alloc 2 [.nil 1, .nil 2], none⟩,
  ⟨some 5, .val (.mov (.k (.int .i64 0))), none⟩]
def disk_Put_r1 (F : Nat → Nat) : List AOper := [
  ⟨some 6, .val (.loadA 2 (.t 2)), none⟩,
  ⟨some 7, .call (F 40) [(.t 6)], none⟩,
  ⟨some 8, .val (.not (.t 7)), none⟩,
  ⟨some 9, .val (.mov (.t 8)), none⟩,
  ⟨some 10, .val (.loadA 2 (.t 2)), some (9, false)⟩,
  ⟨some 11, .val (.loadA 2 (.t 3)), some (9, false)⟩,
  ⟨some 12, .call (F 51) [(.t 10), (.t 11)], some (9, false)⟩,
  ⟨some 13, .val (.not (.t 12)), some (9, false)⟩,
  ⟨some 14, .val (.por (.t 9) (.t 13)), none⟩]
def disk_Put_r2 : List AOper := [
  ⟨some 15, .val (.loadA 2 (.t 2)), none⟩,
  ⟨none, .stA true 2 (.t 4) (.t 15), none⟩,
  ⟨some 5, .val (.mov (.k (.int .i64 1))), none⟩]
def disk_Put_r3 : List AOper := [
  ⟨some 16, .val (.field 1 (.t 2)), none⟩,
  ⟨some 17, .val (.load1 (.t 16)), none⟩,
  ⟨some 18, .val (.lenS (.t 17)), none⟩,
  ⟨some 19, .val (.bin .geq false (.t 18) (.k (.int .i64 200))), none⟩]
def disk_Put_r4 : List AOper := [
  ⟨some 20, .val (.loadA 2 (.t 2)), none⟩,
  ⟨none, .stA true 2 (.t 4) (.t 20), none⟩,
  ⟨some 5, .val (.mov (.k (.int .i64 7))), none⟩]
def disk_Put_r5 (F : Nat → Nat) : List AOper := [
  ⟨some 21, .val (.field 1 (.t 2)), none⟩,
  ⟨some 22, .val (.load1 (.t 21)), none⟩,
  ⟨some 23, .call (F 52) [(.t 22)], none⟩,
  ⟨some 24, .val (.loadA 2 (.t 3)), none⟩,
  ⟨some 25, .buildS 2 1 [.int .i64 0, .str []] [(0, (.t 24))], none⟩,
  ⟨some 26, .app 2 24 (.t 23) (.t 25), none⟩,
  ⟨some 27, .val (.field 1 (.t 2)), none⟩,
  ⟨none, .st1 true (.t 27) (.t 26), none⟩]
def disk_Put_r6 : List AOper := [
  ⟨some 28, .val (.loadA 2 (.t 2)), none⟩,
  ⟨none, .stA true 2 (.t 4) (.t 28), none⟩,
  ⟨some 5, .val (.mov (.k (.int .i64 0))), none⟩]
def disk_Put_c (F : Nat → Nat) : ACode :=
  (.seq
    (.reg disk_Put_r0 (some ([2, 3, 4], [2, 3, 4, 25, 26, 1023])))
    (.seq
      (.seq
        (.reg (disk_Put_r1 F) (some ([2, 3, 4, 14], [2, 3, 4, 25, 26, 1023])))
        (.cond (.t 14)
          (.seq
            (.reg disk_Put_r2 (some ([4, 5], [4, 25, 26, 1023])))
            .ret)
          .skip))
      (.seq
        (.seq
          (.reg disk_Put_r3 (some ([2, 3, 4, 19], [2, 3, 4, 25, 26, 1023])))
          (.cond (.t 19)
            (.seq
              (.reg disk_Put_r4 (some ([4, 5], [4, 25, 26, 1023])))
              .ret)
            .skip))
        (.seq
          (.regD (disk_Put_r5 F) [(2, 3), (0, 4), (1, 4), (2, 4)] (some ([2, 4], [2, 4, 25, 26, 1023])))
          (.seq
            (.reg disk_Put_r6 (some ([4, 5], [4, 25, 26, 1023])))
            .ret)))))
def disk_Put_k (P : Program) (F : Nat → Nat) : Prop := chkFn P (F 36) 2 (disk_Put_c F) [.loadA 2 (.t 4), 5] = true
def ref03_Same_r0 : List AOper := [
  ⟨some 2, .box 2 (.t 0), none⟩,
  ⟨some 3, .box 2 (.t 1), none⟩,
  ⟨some 4, .val (.mov (.k (.bool false))), none⟩]
def ref03_Same_r1 : List AOper := [
  ⟨some 7, .val (.field 0 (.t 2)), none⟩,
  ⟨some 8, .val (.load1 (.t 7)), none⟩,
  ⟨some 9, .val (.lenS (.t 8)), none⟩,
  ⟨some 10, .val (.field 0 (.t 3)), none⟩,
  ⟨some 11, .val (.load1 (.t 10)), none⟩,
  ⟨some 12, .val (.lenS (.t 11)), none⟩,
  ⟨some 13, .val (.bin .neq false (.t 9) (.t 12)), none⟩,
  ⟨some 14, .val (.mov (.t 13)), none⟩,
  ⟨some 15, .val (.field 1 (.t 2)), some (14, false)⟩,
  ⟨some 16, .val (.load1 (.t 15)), some (14, false)⟩,
  ⟨some 17, .val (.lenS (.t 16)), some (14, false)⟩,
  ⟨some 18, .val (.field 1 (.t 3)), some (14, false)⟩,
  ⟨some 19, .val (.load1 (.t 18)), some (14, false)⟩,
  ⟨some 20, .val (.lenS (.t 19)), some (14, false)⟩,
  ⟨some 21, .val (.bin .neq false (.t 17) (.t 20)), some (14, false)⟩,
  ⟨some 22, .val (.por (.t 14) (.t 21)), none⟩]
def ref03_Same_r2 : List AOper := [
  ⟨some 4, .val (.mov (.k (.bool false))), none⟩]
def ref03_Same_r3 : List AOper := [
  ⟨some 5, .val (.mov (.k (.int .i64 0))), none⟩]
def ref03_Same_r4 : List AOper := [
  ⟨some 23, .val (.mov (.t 5)), none⟩,
  ⟨some 24, .val (.field 0 (.t 2)), none⟩,
  ⟨some 25, .val (.load1 (.t 24)), none⟩,
  ⟨some 26, .val (.lenS (.t 25)), none⟩,
  ⟨some 27, .val (.bin .lss false (.t 23) (.t 26)), none⟩]
def ref03_Same_r6 : List AOper := [
  ⟨some 30, .val (.field 0 (.t 2)), none⟩,
  ⟨some 31, .val (.load1 (.t 30)), none⟩,
  ⟨some 32, .val (.mov (.t 5)), none⟩,
  ⟨some 33, .val (.ixS 1 (.t 31) (.t 32)), none⟩,
  ⟨some 34, .val (.load1 (.t 33)), none⟩,
  ⟨some 35, .val (.field 0 (.t 3)), none⟩,
  ⟨some 36, .val (.load1 (.t 35)), none⟩,
  ⟨some 37, .val (.mov (.t 5)), none⟩,
  ⟨some 38, .val (.ixS 1 (.t 36) (.t 37)), none⟩,
  ⟨some 39, .val (.load1 (.t 38)), none⟩,
  ⟨some 40, .val (.bin .neq false (.t 34) (.t 39)), none⟩]
def ref03_Same_r7 : List AOper := [
  ⟨some 4, .val (.mov (.k (.bool false))), none⟩]
def ref03_Same_r5 : List AOper := [
  ⟨some 28, .val (.mov (.t 5)), none⟩,
  ⟨some 29, .val (.bin .add true (.t 28) (.k (.int .i64 1))), none⟩,
  ⟨some 5, .val (.mov (.t 29)), none⟩]
def ref03_Same_r8 : List AOper := [
  ⟨some 6, .val (.mov (.k (.int .i64 0))), none⟩]
def ref03_Same_r9 : List AOper := [
  ⟨some 41, .val (.mov (.t 6)), none⟩,
  ⟨some 42, .val (.field 1 (.t 2)), none⟩,
  ⟨some 43, .val (.load1 (.t 42)), none⟩,
  ⟨some 44, .val (.lenS (.t 43)), none⟩,
  ⟨some 45, .val (.bin .lss false (.t 41) (.t 44)), none⟩]
def ref03_Same_r11 : List AOper := [
  ⟨some 48, .val (.field 1 (.t 2)), none⟩,
  ⟨some 49, .val (.load1 (.t 48)), none⟩,
  ⟨some 50, .val (.mov (.t 6)), none⟩,
  ⟨some 51, .val (.ixS 2 (.t 49) (.t 50)), none⟩,
  ⟨some 52, .val (.loadA 2 (.t 51)), none⟩,
  ⟨some 53, .val (.field 1 (.t 3)), none⟩,
  ⟨some 54, .val (.load1 (.t 53)), none⟩,
  ⟨some 55, .val (.mov (.t 6)), none⟩,
  ⟨some 56, .val (.ixS 2 (.t 54) (.t 55)), none⟩,
  ⟨some 57, .val (.loadA 2 (.t 56)), none⟩,
  ⟨some 58, .val (.eqA true [0, 2] (.t 52) (.t 57)), none⟩]
def ref03_Same_r12 : List AOper := [
  ⟨some 4, .val (.mov (.k (.bool false))), none⟩]
def ref03_Same_r10 : List AOper := [
  ⟨some 46, .val (.mov (.t 6)), none⟩,
  ⟨some 47, .val (.bin .add true (.t 46) (.k (.int .i64 1))), none⟩,
  ⟨some 6, .val (.mov (.t 47)), none⟩]
def ref03_Same_r13 : List AOper := [
  ⟨some 4, .val (.mov (.k (.bool true))), none⟩]
def ref03_Same_c : ACode :=
  (.seq
    (.reg ref03_Same_r0 (some ([2, 3], [2, 3])))
    (.seq
      (.seq
        (.reg ref03_Same_r1 (some ([2, 3, 22], [2, 3])))
        (.cond (.t 22)
          (.seq
            (.reg ref03_Same_r2 (some ([4], [])))
            .ret)
          .skip))
      (.seq
        (.seq
          (.reg ref03_Same_r3 (some ([2, 3, 5], [2, 3])))
          (.block 0
            (.loop
              (.seq
                (.seq
                  (.reg ref03_Same_r4 (some ([2, 3, 5, 27], [2, 3])))
                  (.cond (.t 27)
                    .skip
                    (.exit 0)))
                (.seq
                  (.block 1
                    (.seq
                      (.regD ref03_Same_r6 [] (some ([2, 3, 5, 40], [2, 3])))
                      (.cond (.t 40)
                        (.seq
                          (.reg ref03_Same_r7 (some ([4], [])))
                          .ret)
                        .skip)))
                  (.reg ref03_Same_r5 (some ([2, 3, 5], [2, 3]))))))))
        (.seq
          (.seq
            (.reg ref03_Same_r8 (some ([2, 3, 6], [2, 3])))
            (.block 2
              (.loop
                (.seq
                  (.seq
                    (.reg ref03_Same_r9 (some ([2, 3, 6, 45], [2, 3])))
                    (.cond (.t 45)
                      .skip
                      (.exit 2)))
                  (.seq
                    (.block 3
                      (.seq
                        (.regD ref03_Same_r11 [] (some ([2, 3, 6, 58], [2, 3])))
                        (.cond (.t 58)
                          (.seq
                            (.reg ref03_Same_r12 (some ([4], [])))
                            .ret)
                          .skip)))
                    (.reg ref03_Same_r10 (some ([2, 3, 6], [2, 3]))))))))
          (.seq
            (.reg ref03_Same_r13 (some ([4], [])))
            .ret)))))
def ref03_Same_k (P : Program) (F : Nat → Nat) : Prop := chkFn P (F 38) 2 (ref03_Same_c) [4] = true
def disk_Right_r0 : List AOper := [
  ⟨some 1, .box 2 (.t 0), none⟩,
  ⟨some 2, .val (.mov (.k (.bool false))), none⟩]
def disk_Right_r1 : List AOper := [
  ⟨some 7, .val (.field 0 (.t 1)), none⟩,
  ⟨some 8, .val (.load1 (.t 7)), none⟩,
  ⟨some 9, .val (.lenS (.t 8)), none⟩,
  ⟨some 10, .val (.bin .lss false (.t 9) (.k (.int .i64 1))), none⟩,
  ⟨some 11, .val (.mov (.t 10)), none⟩,
  ⟨some 12, .val (.field 0 (.t 1)), some (11, false)⟩,
  ⟨some 13, .val (.load1 (.t 12)), some (11, false)⟩,
  ⟨some 14, .val (.lenS (.t 13)), some (11, false)⟩,
  ⟨some 15, .val (.bin .gtr false (.t 14) (.k (.int .i64 64))), some (11, false)⟩,
  ⟨some 16, .val (.por (.t 11) (.t 15)), none⟩,
  ⟨some 17, .val (.mov (.t 16)), none⟩,
  ⟨some 18, .val (.field 1 (.t 1)), some (17, false)⟩,
  ⟨some 19, .val (.load1 (.t 18)), some (17, false)⟩,
  ⟨some 20, .val (.lenS (.t 19)), some (17, false)⟩,
  ⟨some 21, .val (.bin .gtr false (.t 20) (.k (.int .i64 200))), some (17, false)⟩,
  ⟨some 22, .val (.por (.t 17) (.t 21)), none⟩]
def disk_Right_r2 : List AOper := [
  ⟨some 2, .val (.mov (.k (.bool false))), none⟩]
def disk_Right_r3 : List AOper := [
  ⟨some 23, .val (.field 0 (.t 1)), none⟩,
  ⟨some 24, .val (.load1 (.t 23)), none⟩,
  ⟨some 25, .val (.lenS (.t 24)), none⟩,
  ⟨some 26, .val (.mov (.k (.int .i64 0))), none⟩]
def disk_Right_r4 : List AOper := [
  ⟨some 27, .val (.bin .lss false (.t 26) (.t 25)), none⟩]
def disk_Right_r5 : List AOper := [
  ⟨some 28, .val (.ixS 1 (.t 24) (.t 26)), none⟩,
  ⟨some 29, .val (.load1 (.t 28)), none⟩,
  ⟨some 4, .val (.mov (.t 29)), none⟩]
def disk_Right_r6 : List AOper := [
  ⟨some 30, .val (.mov (.t 4)), none⟩,
  ⟨some 31, .val (.lenT (.t 30)), none⟩,
  ⟨some 32, .val (.bin .neq false (.t 31) (.k (.int .i64 16))), none⟩]
def disk_Right_r7 : List AOper := [
  ⟨some 2, .val (.mov (.k (.bool false))), none⟩]
def disk_Right_r8 : List AOper := [
  ⟨some 33, .val (.bin .add true (.t 26) (.k (.int .i64 1))), none⟩,
  ⟨some 26, .val (.mov (.t 33)), none⟩]
def disk_Right_r9 : List AOper := [
  ⟨some 34, .val (.field 1 (.t 1)), none⟩,
  ⟨some 35, .val (.load1 (.t 34)), none⟩,
  ⟨some 36, .val (.lenS (.t 35)), none⟩,
  ⟨some 37, .val (.mov (.k (.int .i64 0))), none⟩]
def disk_Right_r10 : List AOper := [
  ⟨some 38, .val (.bin .lss false (.t 37) (.t 36)), none⟩]
def disk_Right_r11 : List AOper := [
  ⟨some 39, .val (.ixS 2 (.t 35) (.t 37)), none⟩,
  ⟨some 40, .val (.loadA 2 (.t 39)), none⟩,
  ⟨some 6, .alloc 2 [.int .i64 0, .str []], none⟩,
  ⟨none, .stA true 2 (.t 6) (.t 40), none⟩]
def disk_Right_r12 (F : Nat → Nat) : List AOper := [
  ⟨some 41, .val (.loadA 2 (.t 1)), none⟩,
  ⟨some 42, .val (.loadA 2 (.t 6)), none⟩,
  ⟨some 43, .call (F 51) [(.t 41), (.t 42)], none⟩,
  ⟨some 44, .val (.not (.t 43)), none⟩]
def disk_Right_r13 : List AOper := [
  ⟨some 2, .val (.mov (.k (.bool false))), none⟩]
def disk_Right_r14 : List AOper := [
  ⟨some 45, .val (.bin .add true (.t 37) (.k (.int .i64 1))), none⟩,
  ⟨some 37, .val (.mov (.t 45)), none⟩]
def disk_Right_r15 : List AOper := [
  ⟨some 2, .val (.mov (.k (.bool true))), none⟩]
def disk_Right_c (F : Nat → Nat) : ACode :=
  (.seq
    (.reg disk_Right_r0 (some ([1], [1])))
    (.seq
      (.seq
        (.reg disk_Right_r1 (some ([1, 22], [1])))
        (.cond (.t 22)
          (.seq
            (.reg disk_Right_r2 (some ([2], [])))
            .ret)
          .skip))
      (.seq
        (.seq
          (.reg disk_Right_r3 (some ([1, 24, 25, 26], [1])))
          (.block 0
            (.loop
              (.seq
                (.reg disk_Right_r4 (some ([1, 24, 25, 26, 27], [1])))
                (.seq
                  (.cond (.t 27)
                    .skip
                    (.exit 0))
                  (.seq
                    (.block 1
                      (.seq
                        (.reg disk_Right_r5 (some ([1, 4, 24, 25, 26], [1])))
                        (.seq
                          (.reg disk_Right_r6 (some ([1, 24, 25, 26, 32], [1])))
                          (.cond (.t 32)
                            (.seq
                              (.reg disk_Right_r7 (some ([2], [])))
                              .ret)
                            .skip))))
                    (.reg disk_Right_r8 (some ([1, 24, 25, 26], [1])))))))))
        (.seq
          (.seq
            (.reg disk_Right_r9 (some ([1, 35, 36, 37], [1])))
            (.block 2
              (.loop
                (.seq
                  (.reg disk_Right_r10 (some ([1, 35, 36, 37, 38], [1])))
                  (.seq
                    (.cond (.t 38)
                      .skip
                      (.exit 2))
                    (.seq
                      (.block 3
                        (.seq
                          (.reg disk_Right_r11 (some ([1, 6, 35, 36, 37], [1, 6])))
                          (.seq
                            (.reg (disk_Right_r12 F) (some ([1, 35, 36, 37, 44], [1])))
                            (.cond (.t 44)
                              (.seq
                                (.reg disk_Right_r13 (some ([2], [])))
                                .ret)
                              .skip))))
                      (.reg disk_Right_r14 (some ([1, 35, 36, 37], [1])))))))))
          (.seq
            (.reg disk_Right_r15 (some ([2], [])))
            .ret)))))
def disk_Right_k (P : Program) (F : Nat → Nat) : Prop := chkFn P (F 40) 1 (disk_Right_c F) [2] = true
def disk_Sync_r0 : List AOper := [
  ⟨some 1, .box 2 (.t 0), none⟩,
  ⟨some 2, .alloc 2 [.nil 1, .nil 2], none⟩]
def disk_Sync_r1 (F : Nat → Nat) : List AOper := [
  ⟨some 3, .val (.loadA 2 (.t 1)), none⟩,
  ⟨some 4, .call (F 40) [(.t 3)], none⟩,
  ⟨some 5, .val (.not (.t 4)), none⟩]
def disk_Sync_r2 : List AOper := [
  ⟨some 6, .val (.loadA 2 (.t 1)), none⟩,
  ⟨none, .stA true 2 (.t 2) (.t 6), none⟩]
def disk_Sync_r3 (F : Nat → Nat) : List AOper := [
  ⟨some 7, .val (.loadA 2 (.t 1)), none⟩,
  ⟨some 8, .val (.field 1 (.t 1)), none⟩,
  ⟨some 9, .val (.load1 (.t 8)), none⟩,
  ⟨some 10, .call (F 50) [(.t 7), (.t 9)], none⟩,
  ⟨none, .stA true 2 (.t 2) (.t 10), none⟩]
def disk_Sync_c (F : Nat → Nat) : ACode :=
  (.seq
    (.reg disk_Sync_r0 (some ([1, 2], [1, 2])))
    (.seq
      (.seq
        (.reg (disk_Sync_r1 F) (some ([1, 2, 5], [1, 2])))
        (.cond (.t 5)
          (.seq
            (.reg disk_Sync_r2 (some ([2], [2])))
            .ret)
          .skip))
      (.seq
        (.reg (disk_Sync_r3 F) (some ([2], [2])))
        .ret)))
def disk_Sync_k (P : Program) (F : Nat → Nat) : Prop := chkFn P (F 41) 1 (disk_Sync_c F) [.loadA 2 (.t 2)] = true
def ref03_Sync_r0 : List AOper := [
  ⟨some 1, .box 2 (.t 0), none⟩,
  ⟨some 2, .alloc 2 [.nil 1, .nil 2], none⟩]
def ref03_Sync_r1 : List AOper := [
  ⟨some 3, .alloc 2 [.nil 1, .nil 2], none⟩]
def ref03_Sync_r2 : List AOper := [
  ⟨some 4, .val (.mov (.k (.int .i64 0))), none⟩]
def ref03_Sync_r3 : List AOper := [
  ⟨some 5, .val (.mov (.t 4)), none⟩,
  ⟨some 6, .val (.field 0 (.t 1)), none⟩,
  ⟨some 7, .val (.load1 (.t 6)), none⟩,
  ⟨some 8, .val (.lenS (.t 7)), none⟩,
  ⟨some 9, .val (.bin .lss false (.t 5) (.t 8)), none⟩]
def ref03_Sync_r5 (F : Nat → Nat) : List AOper := [
  ⟨some 12, .val (.field 0 (.t 3)), none⟩,
  ⟨some 13, .val (.load1 (.t 12)), none⟩,
  ⟨some 14, .val (.loadA 2 (.t 1)), none⟩,
  ⟨some 15, .val (.mov (.t 4)), none⟩,
  ⟨some 16, .call (F 44) [(.t 14), (.t 15)], none⟩,
  ⟨some 17, .buildS 1 1 [.str []] [(0, (.t 16))], none⟩,
  ⟨some 18, .app 1 16 (.t 13) (.t 17), none⟩,
  ⟨some 19, .val (.field 0 (.t 3)), none⟩,
  ⟨none, .st1 true (.t 19) (.t 18), none⟩]
def ref03_Sync_r4 : List AOper := [
  ⟨some 10, .val (.mov (.t 4)), none⟩,
  ⟨some 11, .val (.bin .add true (.t 10) (.k (.int .i64 1))), none⟩,
  ⟨some 4, .val (.mov (.t 11)), none⟩]
def ref03_Sync_r6 : List AOper := [
  ⟨some 20, .val (.loadA 2 (.t 3)), none⟩,
  ⟨none, .stA true 2 (.t 2) (.t 20), none⟩]
def ref03_Sync_c (F : Nat → Nat) : ACode :=
  (.seq
    (.reg ref03_Sync_r0 (some ([1, 2], [1, 2, 17, 18])))
    (.seq
      (.reg ref03_Sync_r1 (some ([1, 2, 3], [1, 2, 3, 17, 18])))
      (.seq
        (.seq
          (.reg ref03_Sync_r2 (some ([1, 2, 3, 4], [1, 2, 3, 17, 18])))
          (.block 0
            (.loop
              (.seq
                (.seq
                  (.reg ref03_Sync_r3 (some ([1, 2, 3, 4, 9], [1, 2, 3, 17, 18])))
                  (.cond (.t 9)
                    .skip
                    (.exit 0)))
                (.seq
                  (.block 1
                    (.regD (ref03_Sync_r5 F) [(0, 4), (1, 4), (0, 5), (1, 5)] (some ([1, 2, 3, 4], [1, 2, 3, 17, 18]))))
                  (.reg ref03_Sync_r4 (some ([1, 2, 3, 4], [1, 2, 3, 17, 18]))))))))
        (.seq
          (.reg ref03_Sync_r6 (some ([2], [2, 17, 18])))
          .ret))))
def ref03_Sync_k (P : Program) (F : Nat → Nat) : Prop := chkFn P (F 42) 1 (ref03_Sync_c F) [.loadA 2 (.t 2)] = true
def ref03_Crash_r0 : List AOper := [
  ⟨some 2, .box 2 (.t 0), none⟩,
  ⟨some 4, .alloc 2 [.nil 1, .nil 2], none⟩]
def ref03_Crash_r1 : List AOper := [
  ⟨some 5, .alloc 2 [.nil 1, .nil 2], none⟩]
def ref03_Crash_r2 : List AOper := [
  ⟨some 6, .val (.mov (.k (.int .i64 0))), none⟩]
def ref03_Crash_r3 : List AOper := [
  ⟨some 9, .val (.mov (.t 6)), none⟩,
  ⟨some 10, .val (.field 0 (.t 2)), none⟩,
  ⟨some 11, .val (.load1 (.t 10)), none⟩,
  ⟨some 12, .val (.lenS (.t 11)), none⟩,
  ⟨some 13, .val (.bin .lss false (.t 9) (.t 12)), none⟩]
def ref03_Crash_r5 : List AOper := [
  ⟨some 16, .val (.field 0 (.t 2)), none⟩,
  ⟨some 17, .val (.load1 (.t 16)), none⟩,
  ⟨some 18, .val (.mov (.t 6)), none⟩,
  ⟨some 19, .val (.ixS 1 (.t 17) (.t 18)), none⟩,
  ⟨some 20, .val (.load1 (.t 19)), none⟩,
  ⟨some 7, .val (.mov (.t 20)), none⟩]
def ref03_Crash_r6 : List AOper := [
  ⟨some 8, .val (.mov (.k (.int .i64 0))), none⟩]
def ref03_Crash_r7 : List AOper := [
  ⟨some 21, .val (.mov (.t 8)), none⟩,
  ⟨some 22, .val (.field 1 (.t 2)), none⟩,
  ⟨some 23, .val (.load1 (.t 22)), none⟩,
  ⟨some 24, .val (.lenS (.t 23)), none⟩,
  ⟨some 25, .val (.bin .lss false (.t 21) (.t 24)), none⟩]
def ref03_Crash_r9 (F : Nat → Nat) : List AOper := [
  ⟨some 28, .val (.field 1 (.t 2)), none⟩,
  ⟨some 29, .val (.load1 (.t 28)), none⟩,
  ⟨some 30, .val (.mov (.t 8)), none⟩,
  ⟨some 31, .val (.ixS 2 (.t 29) (.t 30)), none⟩,
  ⟨some 32, .val (.field 0 (.t 31)), none⟩,
  ⟨some 33, .val (.load1 (.t 32)), none⟩,
  ⟨some 34, .val (.mov (.t 6)), none⟩,
  ⟨some 35, .val (.bin .eql false (.t 33) (.t 34)), none⟩,
  ⟨some 36, .val (.mov (.t 35)), none⟩,
  ⟨some 37, .val (.mov (.t 1)), some (36, true)⟩,
  ⟨some 38, .val (.mov (.t 8)), some (36, true)⟩,
  ⟨some 39, .call (F 54) [(.t 37), (.t 38)], some (36, true)⟩,
  ⟨some 40, .val (.pand (.t 36) (.t 39)), none⟩]
def ref03_Crash_r10 : List AOper := [
  ⟨some 41, .val (.field 1 (.t 2)), none⟩,
  ⟨some 42, .val (.load1 (.t 41)), none⟩,
  ⟨some 43, .val (.mov (.t 8)), none⟩,
  ⟨some 44, .val (.ixS 2 (.t 42) (.t 43)), none⟩,
  ⟨some 45, .val (.field 1 (.t 44)), none⟩,
  ⟨some 46, .val (.load1 (.t 45)), none⟩,
  ⟨some 7, .val (.mov (.t 46)), none⟩]
def ref03_Crash_r8 : List AOper := [
  ⟨some 26, .val (.mov (.t 8)), none⟩,
  ⟨some 27, .val (.bin .add true (.t 26) (.k (.int .i64 1))), none⟩,
  ⟨some 8, .val (.mov (.t 27)), none⟩]
def ref03_Crash_r11 : List AOper := [
  ⟨some 47, .val (.field 0 (.t 5)), none⟩,
  ⟨some 48, .val (.load1 (.t 47)), none⟩,
  ⟨some 49, .val (.mov (.t 7)), none⟩,
  ⟨some 50, .buildS 1 1 [.str []] [(0, (.t 49))], none⟩,
  ⟨some 51, .app 1 16 (.t 48) (.t 50), none⟩,
  ⟨some 52, .val (.field 0 (.t 5)), none⟩,
  ⟨none, .st1 true (.t 52) (.t 51), none⟩]
def ref03_Crash_r4 : List AOper := [
  ⟨some 14, .val (.mov (.t 6)), none⟩,
  ⟨some 15, .val (.bin .add true (.t 14) (.k (.int .i64 1))), none⟩,
  ⟨some 6, .val (.mov (.t 15)), none⟩]
def ref03_Crash_r12 : List AOper := [
  ⟨some 53, .val (.loadA 2 (.t 5)), none⟩,
  ⟨none, .stA true 2 (.t 4) (.t 53), none⟩]
def ref03_Crash_c (F : Nat → Nat) : ACode :=
  (.seq
    (.reg ref03_Crash_r0 (some ([1, 2, 4], [2, 4, 50, 51])))
    (.seq
      (.reg ref03_Crash_r1 (some ([1, 2, 4, 5], [2, 4, 5, 50, 51])))
      (.seq
        (.seq
          (.reg ref03_Crash_r2 (some ([1, 2, 4, 5, 6], [2, 4, 5, 50, 51])))
          (.block 0
            (.loop
              (.seq
                (.seq
                  (.reg ref03_Crash_r3 (some ([1, 2, 4, 5, 6, 13], [2, 4, 5, 50, 51])))
                  (.cond (.t 13)
                    .skip
                    (.exit 0)))
                (.seq
                  (.block 1
                    (.seq
                      (.reg ref03_Crash_r5 (some ([1, 2, 4, 5, 6, 7], [2, 4, 5, 50, 51])))
                      (.seq
                        (.seq
                          (.reg ref03_Crash_r6 (some ([1, 2, 4, 5, 6, 7, 8], [2, 4, 5, 50, 51])))
                          (.block 2
                            (.loop
                              (.seq
                                (.seq
                                  (.reg ref03_Crash_r7 (some ([1, 2, 4, 5, 6, 7, 8, 25], [2, 4, 5, 50, 51])))
                                  (.cond (.t 25)
                                    .skip
                                    (.exit 2)))
                                (.seq
                                  (.block 3
                                    (.seq
                                      (.reg (ref03_Crash_r9 F) (some ([1, 2, 4, 5, 6, 7, 8, 40], [2, 4, 5, 50, 51])))
                                      (.cond (.t 40)
                                        (.reg ref03_Crash_r10 (some ([1, 2, 4, 5, 6, 7, 8], [2, 4, 5, 50, 51])))
                                        .skip)))
                                  (.reg ref03_Crash_r8 (some ([1, 2, 4, 5, 6, 7, 8], [2, 4, 5, 50, 51]))))))))
                        (.reg ref03_Crash_r11 (some ([1, 2, 4, 5, 6], [2, 4, 5, 50, 51]))))))
                  (.reg ref03_Crash_r4 (some ([1, 2, 4, 5, 6], [2, 4, 5, 50, 51]))))))))
        (.seq
          (.reg ref03_Crash_r12 (some ([4], [4, 50, 51])))
          .ret))))
def ref03_Crash_k (P : Program) (F : Nat → Nat) : Prop := chkFn P (F 43) 2 (ref03_Crash_c F) [.loadA 2 (.t 4)] = true
def ref03_Read_r0 : List AOper := [
  ⟨some 2, .box 2 (.t 0), none⟩,
  ⟨some 4, .val (.mov (.k (.str []))), none⟩]
def ref03_Read_r1 : List AOper := [
  ⟨some 6, .val (.field 1 (.t 2)), none⟩,
  ⟨some 7, .val (.load1 (.t 6)), none⟩,
  ⟨some 8, .val (.lenS (.t 7)), none⟩,
  ⟨some 9, .val (.bin .sub true (.t 8) (.k (.int .i64 1))), none⟩,
  ⟨some 5, .val (.mov (.t 9)), none⟩]
def ref03_Read_r2 : List AOper := [
  ⟨some 10, .val (.mov (.t 5)), none⟩,
  ⟨some 11, .val (.bin .geq false (.t 10) (.k (.int .i64 0))), none⟩]
def ref03_Read_r4 : List AOper := [
  ⟨some 14, .val (.field 1 (.t 2)), none⟩,
  ⟨some 15, .val (.load1 (.t 14)), none⟩,
  ⟨some 16, .val (.mov (.t 5)), none⟩,
  ⟨some 17, .val (.ixS 2 (.t 15) (.t 16)), none⟩,
  ⟨some 18, .val (.field 0 (.t 17)), none⟩,
  ⟨some 19, .val (.load1 (.t 18)), none⟩,
  ⟨some 20, .val (.mov (.t 1)), none⟩,
  ⟨some 21, .val (.bin .eql false (.t 19) (.t 20)), none⟩]
def ref03_Read_r5 : List AOper := [
  ⟨some 22, .val (.field 1 (.t 2)), none⟩,
  ⟨some 23, .val (.load1 (.t 22)), none⟩,
  ⟨some 24, .val (.mov (.t 5)), none⟩,
  ⟨some 25, .val (.ixS 2 (.t 23) (.t 24)), none⟩,
  ⟨some 26, .val (.field 1 (.t 25)), none⟩,
  ⟨some 27, .val (.load1 (.t 26)), none⟩,
  ⟨some 4, .val (.mov (.t 27)), none⟩]
def ref03_Read_r3 : List AOper := [
  ⟨some 12, .val (.mov (.t 5)), none⟩,
  ⟨some 13, .val (.bin .sub true (.t 12) (.k (.int .i64 1))), none⟩,
  ⟨some 5, .val (.mov (.t 13)), none⟩]
def ref03_Read_r6 : List AOper := [
  ⟨some 28, .val (.field 0 (.t 2)), none⟩,
  ⟨some 29, .val (.load1 (.t 28)), none⟩,
  ⟨some 30, .val (.mov (.t 1)), none⟩,
  ⟨some 31, .val (.ixS 1 (.t 29) (.t 30)), none⟩,
  ⟨some 32, .val (.load1 (.t 31)), none⟩,
  ⟨some 4, .val (.mov (.t 32)), none⟩]
def ref03_Read_c : ACode :=
  (.seq
    (.reg ref03_Read_r0 (some ([1, 2], [2])))
    (.seq
      (.seq
        (.reg ref03_Read_r1 (some ([1, 2, 5], [2])))
        (.block 0
          (.loop
            (.seq
              (.seq
                (.reg ref03_Read_r2 (some ([1, 2, 5, 11], [2])))
                (.cond (.t 11)
                  .skip
                  (.exit 0)))
              (.seq
                (.block 1
                  (.seq
                    (.reg ref03_Read_r4 (some ([1, 2, 5, 21], [2])))
                    (.cond (.t 21)
                      (.seq
                        (.reg ref03_Read_r5 (some ([4], [])))
                        .ret)
                      .skip)))
                (.reg ref03_Read_r3 (some ([1, 2, 5], [2]))))))))
      (.seq
        (.reg ref03_Read_r6 (some ([4], [])))
        .ret)))
def ref03_Read_k (P : Program) (F : Nat → Nat) : Prop := chkFn P (F 44) 2 (ref03_Read_c) [4] = true
def disk_written_r0 : List AOper := [
  ⟨some 2, .box 2 (.t 0), none⟩,
  ⟨some 4, .alloc 2 [.nil 1, .nil 2], none⟩]
def disk_written_r1 (F : Nat → Nat) : List AOper := [
  ⟨some 8, .val (.field 0 (.t 2)), none⟩,
  ⟨some 9, .val (.load1 (.t 8)), none⟩,
  ⟨some 10, .call (F 55) [(.t 9)], none⟩,
  ⟨some 5, .val (.mov (.t 10)), none⟩]
def disk_written_r2 : List AOper := [
  ⟨some 11, .val (.mov (.t 1)), none⟩,
  ⟨some 12, .val (.lenS (.t 11)), none⟩,
  ⟨some 13, .val (.mov (.k (.int .i64 0))), none⟩]
def disk_written_r3 : List AOper := [
  ⟨some 14, .val (.bin .lss false (.t 13) (.t 12)), none⟩]
def disk_written_r4 : List AOper := [
  ⟨some 15, .val (.ixS 2 (.t 11) (.t 13)), none⟩,
  ⟨some 16, .val (.loadA 2 (.t 15)), none⟩,
  ⟨some 7, .alloc 2 [.int .i64 0, .str []], none⟩,
  ⟨none, .stA true 2 (.t 7) (.t 16), none⟩]
def disk_written_r5 : List AOper := [
  ⟨some 17, .val (.mov (.t 5)), none⟩,
  ⟨some 18, .val (.field 0 (.t 7)), none⟩,
  ⟨some 19, .val (.load1 (.t 18)), none⟩,
  ⟨some 20, .val (.field 1 (.t 7)), none⟩,
  ⟨some 21, .val (.load1 (.t 20)), none⟩,
  ⟨some 22, .val (.ixS 1 (.t 17) (.t 19)), none⟩,
  ⟨none, .st1 false (.t 22) (.t 21), none⟩]
def disk_written_r6 : List AOper := [
  ⟨some 23, .val (.bin .add true (.t 13) (.k (.int .i64 1))), none⟩,
  ⟨some 13, .val (.mov (.t 23)), none⟩]
def disk_written_r7 : List AOper := [
  ⟨some 24, .val (.mov (.t 5)), none⟩,
  ⟨some 25, .val (.build 2 [.nil 1, .nil 2] [(0, 1, (.t 24))]), none⟩,
  ⟨none, .stA true 2 (.t 4) (.t 25), none⟩]
def disk_written_c (F : Nat → Nat) : ACode :=
  (.seq
    (.reg disk_written_r0 (some ([1, 2, 4], [2, 4, 1010])))
    (.seq
      (.reg (disk_written_r1 F) (some ([1, 4, 5], [4, 1010])))
      (.seq
        (.seq
          (.reg disk_written_r2 (some ([4, 5, 11, 12, 13], [4, 1010])))
          (.block 0
            (.loop
              (.seq
                (.reg disk_written_r3 (some ([4, 5, 11, 12, 13, 14], [4, 1010])))
                (.seq
                  (.cond (.t 14)
                    .skip
                    (.exit 0))
                  (.seq
                    (.block 1
                      (.seq
                        (.reg disk_written_r4 (some ([4, 5, 7, 11, 12, 13], [4, 7, 1010])))
                        (.reg disk_written_r5 (some ([4, 5, 11, 12, 13], [4, 1010])))))
                    (.reg disk_written_r6 (some ([4, 5, 11, 12, 13], [4, 1010])))))))))
        (.seq
          (.reg disk_written_r7 (some ([4], [4, 1010])))
          .ret))))
def disk_written_k (P : Program) (F : Nat → Nat) : Prop := chkFn P (F 50) 2 (disk_written_c F) [.loadA 2 (.t 4)] = true
def disk_fits_r0 : List AOper := [
  ⟨some 2, .box 2 (.t 0), none⟩,
  ⟨some 3, .box 2 (.t 1), none⟩,
  ⟨some 4, .val (.mov (.k (.bool false))), none⟩]
def disk_fits_r1 : List AOper := [
  ⟨some 5, .val (.field 0 (.t 3)), none⟩,
  ⟨some 6, .val (.load1 (.t 5)), none⟩,
  ⟨some 7, .val (.bin .geq false (.t 6) (.k (.int .i64 0))), none⟩,
  ⟨some 8, .val (.mov (.t 7)), none⟩,
  ⟨some 9, .val (.field 0 (.t 3)), some (8, true)⟩,
  ⟨some 10, .val (.load1 (.t 9)), some (8, true)⟩,
  ⟨some 11, .val (.field 0 (.t 2)), some (8, true)⟩,
  ⟨some 12, .val (.load1 (.t 11)), some (8, true)⟩,
  ⟨some 13, .val (.lenS (.t 12)), some (8, true)⟩,
  ⟨some 14, .val (.bin .lss false (.t 10) (.t 13)), some (8, true)⟩,
  ⟨some 15, .val (.pand (.t 8) (.t 14)), none⟩,
  ⟨some 16, .val (.mov (.t 15)), none⟩,
  ⟨some 17, .val (.field 1 (.t 3)), some (16, true)⟩,
  ⟨some 18, .val (.load1 (.t 17)), some (16, true)⟩,
  ⟨some 19, .val (.lenT (.t 18)), some (16, true)⟩,
  ⟨some 20, .val (.bin .eql false (.t 19) (.k (.int .i64 16))), some (16, true)⟩,
  ⟨some 21, .val (.pand (.t 16) (.t 20)), none⟩,
  ⟨some 4, .val (.mov (.t 21)), none⟩]
def disk_fits_c : ACode :=
  (.seq
    (.reg disk_fits_r0 (some ([2, 3], [2, 3])))
    (.seq
      (.reg disk_fits_r1 (some ([4], [])))
      .ret))
def disk_fits_k (P : Program) (F : Nat → Nat) : Prop := chkFn P (F 51) 2 (disk_fits_c) [4] = true
def sl_Clone_api_Write_r0 : List AOper := [
  ⟨some 2, .val (.mov (.k (.nil 2))), none⟩]
def sl_Clone_api_Write_r1 : List AOper := [
  ⟨some 3, .val (.mov (.t 0)), none⟩,
  ⟨some 4, .val (.nilS (.t 3)), none⟩]
def sl_Clone_api_Write_r2 : List AOper := [
  ⟨some 2, .val (.mov (.k (.nil 2))), none⟩]
def sl_Clone_api_Write_r3 : List AOper := [
  ⟨some 5, .buildS 2 0 [.int .i64 0, .str []] [], none⟩,
  ⟨some 6, .val (.mov (.t 0)), none⟩,
  ⟨some 7, .app 2 24 (.t 5) (.t 6), none⟩,
  ⟨some 2, .val (.mov (.t 7)), none⟩]
def sl_Clone_api_Write_c : ACode :=
  (.seq
    (.reg sl_Clone_api_Write_r0 (some ([0], [5, 7])))
    (.seq
      (.seq
        (.reg sl_Clone_api_Write_r1 (some ([0, 4], [5, 7])))
        (.cond (.t 4)
          (.seq
            (.reg sl_Clone_api_Write_r2 (some ([2], [5, 7])))
            .ret)
          .skip))
      (.seq
        (.reg sl_Clone_api_Write_r3 (some ([2], [5, 7])))
        .ret)))
def sl_Clone_api_Write_k (P : Program) (F : Nat → Nat) : Prop := chkFn P (F 52) 1 (sl_Clone_api_Write_c) [2] = true
def ref03_in_r0 : List AOper := [
  ⟨some 4, .val (.mov (.k (.bool false))), none⟩]
def ref03_in_r1 : List AOper := [
  ⟨some 5, .val (.mov (.k (.int .i64 0))), none⟩]
def ref03_in_r2 : List AOper := [
  ⟨some 6, .val (.mov (.t 5)), none⟩,
  ⟨some 7, .val (.mov (.t 0)), none⟩,
  ⟨some 8, .val (.lenS (.t 7)), none⟩,
  ⟨some 9, .val (.bin .lss false (.t 6) (.t 8)), none⟩]
def ref03_in_r4 : List AOper := [
  ⟨some 12, .val (.mov (.t 0)), none⟩,
  ⟨some 13, .val (.mov (.t 5)), none⟩,
  ⟨some 14, .val (.ixS 1 (.t 12) (.t 13)), none⟩,
  ⟨some 15, .val (.load1 (.t 14)), none⟩,
  ⟨some 16, .val (.mov (.t 1)), none⟩,
  ⟨some 17, .val (.bin .eql false (.t 15) (.t 16)), none⟩]
def ref03_in_r5 : List AOper := [
  ⟨some 4, .val (.mov (.k (.bool true))), none⟩]
def ref03_in_r3 : List AOper := [
  ⟨some 10, .val (.mov (.t 5)), none⟩,
  ⟨some 11, .val (.bin .add true (.t 10) (.k (.int .i64 1))), none⟩,
  ⟨some 5, .val (.mov (.t 11)), none⟩]
def ref03_in_r6 : List AOper := [
  ⟨some 4, .val (.mov (.k (.bool false))), none⟩]
def ref03_in_c : ACode :=
  (.seq
    (.reg ref03_in_r0 (some ([0, 1], [])))
    (.seq
      (.seq
        (.reg ref03_in_r1 (some ([0, 1, 5], [])))
        (.block 0
          (.loop
            (.seq
              (.seq
                (.reg ref03_in_r2 (some ([0, 1, 5, 9], [])))
                (.cond (.t 9)
                  .skip
                  (.exit 0)))
              (.seq
                (.block 1
                  (.seq
                    (.reg ref03_in_r4 (some ([0, 1, 5, 17], [])))
                    (.cond (.t 17)
                      (.seq
                        (.reg ref03_in_r5 (some ([4], [])))
                        .ret)
                      .skip)))
                (.reg ref03_in_r3 (some ([0, 1, 5], []))))))))
      (.seq
        (.reg ref03_in_r6 (some ([4], [])))
        .ret)))
def ref03_in_k (P : Program) (F : Nat → Nat) : Prop := chkFn P (F 54) 2 (ref03_in_c) [4] = true
def sl_Clone_string_r0 : List AOper := [
  ⟨some 2, .val (.mov (.k (.nil 1))), none⟩]
def sl_Clone_string_r1 : List AOper := [
  ⟨some 3, .val (.mov (.t 0)), none⟩,
  ⟨some 4, .val (.nilS (.t 3)), none⟩]
def sl_Clone_string_r2 : List AOper := [
  ⟨some 2, .val (.mov (.k (.nil 1))), none⟩]
def sl_Clone_string_r3 : List AOper := [
  ⟨some 5, .buildS 1 0 [.str []] [], none⟩,
  ⟨some 6, .val (.mov (.t 0)), none⟩,
  ⟨some 7, .app 1 16 (.t 5) (.t 6), none⟩,
  ⟨some 2, .val (.mov (.t 7)), none⟩]
def sl_Clone_string_c : ACode :=
  (.seq
    (.reg sl_Clone_string_r0 (some ([0], [5, 7])))
    (.seq
      (.seq
        (.reg sl_Clone_string_r1 (some ([0, 4], [5, 7])))
        (.cond (.t 4)
          (.seq
            (.reg sl_Clone_string_r2 (some ([2], [5, 7])))
            .ret)
          .skip))
      (.seq
        (.reg sl_Clone_string_r3 (some ([2], [5, 7])))
        .ret)))
def sl_Clone_string_k (P : Program) (F : Nat → Nat) : Prop := chkFn P (F 55) 1 (sl_Clone_string_c) [2] = true
end Lk.C
namespace Lk.C
open Go Lk
def law05_awake_r0 : List AOper := [
  ⟨some 0, .val (.mov (.k (.bool false))), none⟩]
def law05_awake_r1 (F : Nat → Nat) : List AOper := [
  ⟨some 16, .buildS 1 2 [.int .i64 0] [(0, (.k (.int .i64 1))), (1, (.k (.int .i64 2)))], none⟩,
  ⟨some 17, .call (F 75) [(.t 16)], none⟩,
  ⟨some 15, .val (.mov (.t 17)), none⟩,
  ⟨some 18, .val (.extr 0 (.t 15)), none⟩,
  ⟨some 19, .val (.extr 1 (.t 15)), none⟩,
  ⟨some 1, .alloc 3 [.nil 3, .int .i64 0, .bool false], none⟩,
  ⟨none, .stA true 3 (.t 1) (.t 18), none⟩,
  ⟨some 2, .val (.mov (.t 19)), none⟩]
def law05_awake_r2 (F : Nat → Nat) : List AOper := [
  ⟨some 21, .val (.loadA 3 (.t 1)), none⟩,
  ⟨some 22, .call (F 79) [(.t 21), (.k (.int .i64 0)), (.k (.int .i64 4))], none⟩,
  ⟨some 20, .val (.mov (.t 22)), none⟩,
  ⟨some 23, .val (.extr 0 (.t 20)), none⟩,
  ⟨some 24, .val (.extr 1 (.t 20)), none⟩,
  ⟨none, .stA true 3 (.t 1) (.t 23), none⟩,
  ⟨some 3, .val (.mov (.t 24)), none⟩]
def law05_awake_r3 (F : Nat → Nat) : List AOper := [
  ⟨some 26, .val (.loadA 3 (.t 1)), none⟩,
  ⟨some 27, .call (F 79) [(.t 26), (.k (.int .i64 1)), (.k (.int .i64 8))], none⟩,
  ⟨some 25, .val (.mov (.t 27)), none⟩,
  ⟨some 28, .val (.extr 0 (.t 25)), none⟩,
  ⟨some 29, .val (.extr 1 (.t 25)), none⟩,
  ⟨none, .stA true 3 (.t 1) (.t 28), none⟩,
  ⟨some 4, .val (.mov (.t 29)), none⟩]
def law05_awake_r4 (F : Nat → Nat) : List AOper := [
  ⟨some 31, .val (.loadA 3 (.t 1)), none⟩,
  ⟨some 32, .call (F 86) [(.t 31)], none⟩,
  ⟨some 30, .val (.mov (.t 32)), none⟩,
  ⟨some 33, .val (.extr 0 (.t 30)), none⟩,
  ⟨some 34, .val (.extr 1 (.t 30)), none⟩,
  ⟨some 35, .val (.extr 2 (.t 30)), none⟩,
  ⟨some 36, .val (.extr 3 (.t 30)), none⟩,
  ⟨none, .stA true 3 (.t 1) (.t 33), none⟩,
  ⟨some 5, .val (.mov (.t 34)), none⟩,
  ⟨some 6, .val (.mov (.t 35)), none⟩,
  ⟨some 7, .val (.mov (.t 36)), none⟩]
def law05_awake_r5 (F : Nat → Nat) : List AOper := [
  ⟨some 38, .val (.loadA 3 (.t 1)), none⟩,
  ⟨some 39, .call (F 86) [(.t 38)], none⟩,
  ⟨some 37, .val (.mov (.t 39)), none⟩,
  ⟨some 40, .val (.extr 0 (.t 37)), none⟩,
  ⟨some 41, .val (.extr 1 (.t 37)), none⟩,
  ⟨some 42, .val (.extr 2 (.t 37)), none⟩,
  ⟨some 43, .val (.extr 3 (.t 37)), none⟩,
  ⟨none, .stA true 3 (.t 1) (.t 40), none⟩,
  ⟨some 8, .val (.mov (.t 41)), none⟩,
  ⟨some 9, .val (.mov (.t 42)), none⟩,
  ⟨some 10, .val (.mov (.t 43)), none⟩]
def law05_awake_r6 (F : Nat → Nat) : List AOper := [
  ⟨some 45, .val (.loadA 3 (.t 1)), none⟩,
  ⟨some 46, .call (F 86) [(.t 45)], none⟩,
  ⟨some 44, .val (.mov (.t 46)), none⟩,
  ⟨some 47, .val (.extr 0 (.t 44)), none⟩,
  ⟨some 48, .val (.extr 1 (.t 44)), none⟩,
  ⟨some 49, .val (.extr 2 (.t 44)), none⟩,
  ⟨some 50, .val (.extr 3 (.t 44)), none⟩,
  ⟨some 11, .alloc 3 [.nil 3, .int .i64 0, .bool false], none⟩,
  ⟨none, .stA true 3 (.t 11) (.t 47), none⟩,
  ⟨some 12, .val (.mov (.t 48)), none⟩,
  ⟨some 13, .val (.mov (.t 49)), none⟩,
  ⟨some 14, .val (.mov (.t 50)), none⟩]
def law05_awake_r7 (F : Nat → Nat) : List AOper := [
  ⟨some 51, .val (.mov (.t 2)), none⟩,
  ⟨some 52, .val (.bin .eql false (.t 51) (.k (.int .i64 0))), none⟩,
  ⟨some 53, .val (.mov (.t 52)), none⟩,
  ⟨some 54, .val (.mov (.t 3)), some (53, true)⟩,
  ⟨some 55, .val (.bin .eql false (.t 54) (.k (.int .i64 0))), some (53, true)⟩,
  ⟨some 56, .val (.pand (.t 53) (.t 55)), none⟩,
  ⟨some 57, .val (.mov (.t 56)), none⟩,
  ⟨some 58, .val (.mov (.t 4)), some (57, true)⟩,
  ⟨some 59, .val (.bin .eql false (.t 58) (.k (.int .i64 0))), some (57, true)⟩,
  ⟨some 60, .val (.pand (.t 57) (.t 59)), none⟩,
  ⟨some 61, .val (.mov (.t 60)), none⟩,
  ⟨some 62, .val (.mov (.t 5)), some (61, true)⟩,
  ⟨some 63, .val (.bin .eql false (.t 62) (.k (.int .i64 0))), some (61, true)⟩,
  ⟨some 64, .val (.pand (.t 61) (.t 63)), none⟩,
  ⟨some 65, .val (.mov (.t 64)), none⟩,
  ⟨some 66, .val (.mov (.t 6)), some (65, true)⟩,
  ⟨some 67, .val (.bin .eql false (.t 66) (.k (.int .i64 4))), some (65, true)⟩,
  ⟨some 68, .val (.pand (.t 65) (.t 67)), none⟩,
  ⟨some 69, .val (.mov (.t 68)), none⟩,
  ⟨some 70, .val (.mov (.t 7)), some (69, true)⟩,
  ⟨some 71, .val (.pand (.t 69) (.t 70)), none⟩,
  ⟨some 72, .val (.mov (.t 71)), none⟩,
  ⟨some 73, .val (.mov (.t 8)), some (72, true)⟩,
  ⟨some 74, .val (.bin .eql false (.t 73) (.k (.int .i64 1))), some (72, true)⟩,
  ⟨some 75, .val (.pand (.t 72) (.t 74)), none⟩,
  ⟨some 76, .val (.mov (.t 75)), none⟩,
  ⟨some 77, .val (.mov (.t 9)), some (76, true)⟩,
  ⟨some 78, .val (.bin .eql false (.t 77) (.k (.int .i64 8))), some (76, true)⟩,
  ⟨some 79, .val (.pand (.t 76) (.t 78)), none⟩,
  ⟨some 80, .val (.mov (.t 79)), none⟩,
  ⟨some 81, .val (.mov (.t 10)), some (80, true)⟩,
  ⟨some 82, .val (.pand (.t 80) (.t 81)), none⟩,
  ⟨some 83, .val (.mov (.t 82)), none⟩,
  ⟨some 84, .val (.mov (.t 14)), some (83, true)⟩,
  ⟨some 85, .val (.not (.t 84)), some (83, true)⟩,
  ⟨some 86, .val (.pand (.t 83) (.t 85)), none⟩,
  ⟨some 87, .val (.mov (.t 86)), none⟩,
  ⟨some 88, .val (.por (.t 87) (.k (.bool false))), none⟩,
  ⟨some 89, .val (.mov (.t 88)), none⟩,
  ⟨some 90, .val (.loadA 3 (.t 1)), some (89, true)⟩,
  ⟨some 91, .call (F 76) [(.t 90)], some (89, true)⟩,
  ⟨some 92, .val (.pand (.t 89) (.t 91)), none⟩,
  ⟨some 0, .val (.mov (.t 92)), none⟩]
def law05_awake_c (F : Nat → Nat) : ACode :=
  (.seq
    (.reg law05_awake_r0 (some ([], [16])))
    (.seq
      (.reg (law05_awake_r1 F) (some ([1, 2], [1, 16])))
      (.seq
        (.reg (law05_awake_r2 F) (some ([1, 2, 3], [1, 16])))
        (.seq
          (.reg (law05_awake_r3 F) (some ([1, 2, 3, 4], [1, 16])))
          (.seq
            (.reg (law05_awake_r4 F) (some ([1, 2, 3, 4, 5, 6, 7], [1, 16])))
            (.seq
              (.reg (law05_awake_r5 F) (some ([1, 2, 3, 4, 5, 6, 7, 8, 9, 10], [1, 16])))
              (.seq
                (.reg (law05_awake_r6 F) (some ([1, 2, 3, 4, 5, 6, 7, 8, 9, 10, 14], [1, 16])))
                (.seq
                  (.reg (law05_awake_r7 F) (some ([0], [16])))
                  .ret))))))))
def law05_awake_k (P : Program) (F : Nat → Nat) : Prop := chkFn P (F 81) 0 (law05_awake_c F) [0] = true
def lanes_New_r0 : List AOper := [
  ⟨some 2, .alloc 3 [.nil 3, .int .i64 0, .bool false], none⟩,
  ⟨some 3, .val (.mov (.k (.int .i64 0))), none⟩]
def lanes_New_r1 : List AOper := [
  ⟨some 7, .val (.mov (.t 0)), none⟩,
  ⟨some 8, .val (.lenS (.t 7)), none⟩,
  ⟨some 9, .val (.bin .lss false (.t 8) (.k (.int .i64 1))), none⟩,
  ⟨some 10, .val (.mov (.t 9)), none⟩,
  ⟨some 11, .val (.mov (.t 0)), some (10, false)⟩,
  ⟨some 12, .val (.lenS (.t 11)), some (10, false)⟩,
  ⟨some 13, .val (.bin .gtr false (.t 12) (.k (.int .i64 6))), some (10, false)⟩,
  ⟨some 14, .val (.por (.t 10) (.t 13)), none⟩]
def lanes_New_r2 : List AOper := [
  ⟨some 15, .val (.build 3 [.nil 3, .int .i64 0, .bool false] []), none⟩,
  ⟨none, .stA true 3 (.t 2) (.t 15), none⟩,
  ⟨some 3, .val (.mov (.k (.int .i64 1))), none⟩]
def lanes_New_r3 : List AOper := [
  ⟨some 16, .val (.mov (.t 0)), none⟩,
  ⟨some 17, .val (.lenS (.t 16)), none⟩,
  ⟨some 18, .mk 3 40 [.int .i64 0, .int .i64 0, .nil 1] (.t 17), none⟩,
  ⟨some 4, .val (.mov (.t 18)), none⟩]
def lanes_New_r4 : List AOper := [
  ⟨some 19, .val (.mov (.t 0)), none⟩,
  ⟨some 20, .val (.lenS (.t 19)), none⟩,
  ⟨some 21, .val (.mov (.k (.int .i64 0))), none⟩]
def lanes_New_r5 : List AOper := [
  ⟨some 22, .val (.bin .lss false (.t 21) (.t 20)), none⟩]
def lanes_New_r6 : List AOper := [
  ⟨some 23, .val (.mov (.t 21)), none⟩,
  ⟨some 24, .val (.ixS 1 (.t 19) (.t 21)), none⟩,
  ⟨some 25, .val (.load1 (.t 24)), none⟩,
  ⟨some 5, .val (.mov (.t 23)), none⟩,
  ⟨some 6, .val (.mov (.t 25)), none⟩]
def lanes_New_r7 : List AOper := [
  ⟨some 26, .val (.mov (.t 6)), none⟩,
  ⟨some 27, .val (.bin .lss false (.t 26) (.k (.int .i64 1))), none⟩,
  ⟨some 28, .val (.mov (.t 27)), none⟩,
  ⟨some 29, .val (.mov (.t 6)), some (28, false)⟩,
  ⟨some 30, .val (.bin .gtr false (.t 29) (.k (.int .i64 8))), some (28, false)⟩,
  ⟨some 31, .val (.por (.t 28) (.t 30)), none⟩]
def lanes_New_r8 : List AOper := [
  ⟨some 32, .val (.build 3 [.nil 3, .int .i64 0, .bool false] []), none⟩,
  ⟨none, .stA true 3 (.t 2) (.t 32), none⟩,
  ⟨some 3, .val (.mov (.k (.int .i64 1))), none⟩]
def lanes_New_r9 : List AOper := [
  ⟨some 33, .val (.mov (.t 4)), none⟩,
  ⟨some 34, .val (.mov (.t 5)), none⟩,
  ⟨some 35, .val (.mov (.t 6)), none⟩,
  ⟨some 36, .val (.ixS 3 (.t 33) (.t 34)), none⟩,
  ⟨some 37, .val (.field 0 (.t 36)), none⟩,
  ⟨none, .st1 false (.t 37) (.t 35), none⟩]
def lanes_New_r10 : List AOper := [
  ⟨some 38, .val (.bin .add true (.t 21) (.k (.int .i64 1))), none⟩,
  ⟨some 21, .val (.mov (.t 38)), none⟩]
def lanes_New_r11 : List AOper := [
  ⟨some 39, .val (.mov (.t 4)), none⟩,
  ⟨some 40, .val (.build 3 [.nil 3, .int .i64 0, .bool false] [(0, 1, (.t 39))]), none⟩,
  ⟨none, .stA true 3 (.t 2) (.t 40), none⟩,
  ⟨some 3, .val (.mov (.k (.int .i64 0))), none⟩]
def lanes_New_c : ACode :=
  (.seq
    (.reg lanes_New_r0 (some ([0, 2], [2, 18])))
    (.seq
      (.seq
        (.reg lanes_New_r1 (some ([0, 2, 14], [2, 18])))
        (.cond (.t 14)
          (.seq
            (.reg lanes_New_r2 (some ([2, 3], [2, 18])))
            .ret)
          .skip))
      (.seq
        (.reg lanes_New_r3 (some ([0, 2, 4], [2, 18])))
        (.seq
          (.seq
            (.reg lanes_New_r4 (some ([2, 4, 19, 20, 21], [2, 18])))
            (.block 0
              (.loop
                (.seq
                  (.reg lanes_New_r5 (some ([2, 4, 19, 20, 21, 22], [2, 18])))
                  (.seq
                    (.cond (.t 22)
                      .skip
                      (.exit 0))
                    (.seq
                      (.block 1
                        (.seq
                          (.reg lanes_New_r6 (some ([2, 4, 5, 6, 19, 20, 21], [2, 18])))
                          (.seq
                            (.seq
                              (.reg lanes_New_r7 (some ([2, 4, 5, 6, 19, 20, 21, 31], [2, 18])))
                              (.cond (.t 31)
                                (.seq
                                  (.reg lanes_New_r8 (some ([2, 3], [2, 18])))
                                  .ret)
                                .skip))
                            (.reg lanes_New_r9 (some ([2, 4, 19, 20, 21], [2, 18]))))))
                      (.reg lanes_New_r10 (some ([2, 4, 19, 20, 21], [2, 18])))))))))
          (.seq
            (.reg lanes_New_r11 (some ([2, 3], [2, 18])))
            .ret)))))
def lanes_New_k (P : Program) (F : Nat → Nat) : Prop := chkFn P (F 75) 1 (lanes_New_c) [.loadA 3 (.t 2), 3] = true
def lanes_Push_r0 : List AOper := [
  ⟨some 3, .box 3 (.t 0), none⟩,
  ⟨some 6, .alloc 3 [.nil 3, .int .i64 0, .bool false], none⟩,
  ⟨some 7, .val (.mov (.k (.int .i64 0))), none⟩]
def lanes_Push_r1 (F : Nat → Nat) : List AOper := [
  ⟨some 8, .val (.loadA 3 (.t 3)), none⟩,
  ⟨some 9, .call (F 76) [(.t 8)], none⟩,
  ⟨some 10, .val (.not (.t 9)), none⟩,
  ⟨some 11, .val (.mov (.t 10)), none⟩,
  ⟨some 12, .val (.mov (.t 1)), some (11, false)⟩,
  ⟨some 13, .val (.bin .lss false (.t 12) (.k (.int .i64 0))), some (11, false)⟩,
  ⟨some 14, .val (.por (.t 11) (.t 13)), none⟩,
  ⟨some 15, .val (.mov (.t 14)), none⟩,
  ⟨some 16, .val (.mov (.t 1)), some (15, false)⟩,
  ⟨some 17, .val (.field 0 (.t 3)), some (15, false)⟩,
  ⟨some 18, .val (.load1 (.t 17)), some (15, false)⟩,
  ⟨some 19, .val (.lenS (.t 18)), some (15, false)⟩,
  ⟨some 20, .val (.bin .geq false (.t 16) (.t 19)), some (15, false)⟩,
  ⟨some 21, .val (.por (.t 15) (.t 20)), none⟩,
  ⟨some 22, .val (.mov (.t 21)), none⟩,
  ⟨some 23, .val (.mov (.t 2)), some (22, false)⟩,
  ⟨some 24, .val (.bin .lss false (.t 23) (.k (.int .i64 1))), some (22, false)⟩,
  ⟨some 25, .val (.por (.t 22) (.t 24)), none⟩,
  ⟨some 26, .val (.mov (.t 25)), none⟩,
  ⟨some 27, .val (.mov (.t 2)), some (26, false)⟩,
  ⟨some 28, .val (.bin .gtr false (.t 27) (.k (.int .i64 8))), some (26, false)⟩,
  ⟨some 29, .val (.por (.t 26) (.t 28)), none⟩]
def lanes_Push_r2 : List AOper := [
  ⟨some 30, .val (.loadA 3 (.t 3)), none⟩,
  ⟨none, .stA true 3 (.t 6) (.t 30), none⟩,
  ⟨some 7, .val (.mov (.k (.int .i64 1))), none⟩]
def lanes_Push_r3 : List AOper := [
  ⟨some 31, .val (.field 0 (.t 3)), none⟩,
  ⟨some 32, .val (.load1 (.t 31)), none⟩,
  ⟨some 33, .val (.mov (.t 1)), none⟩,
  ⟨some 34, .val (.ixS 3 (.t 32) (.t 33)), none⟩,
  ⟨some 35, .val (.field 2 (.t 34)), none⟩,
  ⟨some 36, .val (.load1 (.t 35)), none⟩,
  ⟨some 37, .val (.lenS (.t 36)), none⟩,
  ⟨some 38, .val (.bin .geq false (.t 37) (.k (.int .i64 200))), none⟩]
def lanes_Push_r4 : List AOper := [
  ⟨some 39, .val (.loadA 3 (.t 3)), none⟩,
  ⟨none, .stA true 3 (.t 6) (.t 39), none⟩,
  ⟨some 7, .val (.mov (.k (.int .i64 7))), none⟩]
def lanes_Push_r5 (F : Nat → Nat) : List AOper := [
  ⟨some 40, .val (.field 0 (.t 3)), none⟩,
  ⟨some 41, .val (.load1 (.t 40)), none⟩,
  ⟨some 42, .call (F 77) [(.t 41)], none⟩,
  ⟨some 43, .val (.field 0 (.t 3)), none⟩,
  ⟨none, .st1 true (.t 43) (.t 42), none⟩]
def lanes_Push_r6 (F : Nat → Nat) : List AOper := [
  ⟨some 44, .val (.field 0 (.t 3)), none⟩,
  ⟨some 45, .val (.load1 (.t 44)), none⟩,
  ⟨some 46, .val (.mov (.t 1)), none⟩,
  ⟨some 47, .val (.field 0 (.t 3)), none⟩,
  ⟨some 48, .val (.load1 (.t 47)), none⟩,
  ⟨some 49, .val (.mov (.t 1)), none⟩,
  ⟨some 50, .val (.ixS 3 (.t 48) (.t 49)), none⟩,
  ⟨some 51, .val (.field 2 (.t 50)), none⟩,
  ⟨some 52, .val (.load1 (.t 51)), none⟩,
  ⟨some 53, .call (F 78) [(.t 52)], none⟩,
  ⟨some 54, .val (.mov (.t 2)), none⟩,
  ⟨some 55, .buildS 1 1 [.int .i64 0] [(0, (.t 54))], none⟩,
  ⟨some 56, .app 1 8 (.t 53) (.t 55), none⟩,
  ⟨some 57, .val (.ixS 3 (.t 45) (.t 46)), none⟩,
  ⟨some 58, .val (.field 2 (.t 57)), none⟩,
  ⟨none, .st1 false (.t 58) (.t 56), none⟩]
def lanes_Push_r7 : List AOper := [
  ⟨some 59, .val (.loadA 3 (.t 3)), none⟩,
  ⟨none, .stA true 3 (.t 6) (.t 59), none⟩,
  ⟨some 7, .val (.mov (.k (.int .i64 0))), none⟩]
def lanes_Push_c (F : Nat → Nat) : ACode :=
  (.seq
    (.reg lanes_Push_r0 (some ([1, 2, 3, 6], [3, 6, 55, 56, 1042, 1053])))
    (.seq
      (.seq
        (.reg (lanes_Push_r1 F) (some ([1, 2, 3, 6, 29], [3, 6, 55, 56, 1042, 1053])))
        (.cond (.t 29)
          (.seq
            (.reg lanes_Push_r2 (some ([6, 7], [6, 55, 56, 1042, 1053])))
            .ret)
          .skip))
      (.seq
        (.seq
          (.reg lanes_Push_r3 (some ([1, 2, 3, 6, 38], [3, 6, 55, 56, 1042, 1053])))
          (.cond (.t 38)
            (.seq
              (.reg lanes_Push_r4 (some ([6, 7], [6, 55, 56, 1042, 1053])))
              .ret)
            .skip))
        (.seq
          (.reg (lanes_Push_r5 F) (some ([1, 2, 3, 6], [3, 6, 55, 56, 1042, 1053])))
          (.seq
            (.regD (lanes_Push_r6 F) [(0, 9), (1, 9), (2, 9), (9, 10), (0, 11), (1, 11), (2, 11), (3, 11), (4, 11), (5, 11), (6, 11), (7, 11), (8, 11), (9, 11), (0, 12), (1, 12), (2, 12)] (some ([3, 6], [3, 6, 55, 56, 1042, 1053])))
            (.seq
              (.reg lanes_Push_r7 (some ([6, 7], [6, 55, 56, 1042, 1053])))
              .ret))))))
def lanes_Push_k (P : Program) (F : Nat → Nat) : Prop := chkFn P (F 79) 3 (lanes_Push_c F) [.loadA 3 (.t 6), 7] = true
def lanes_Right_r0 : List AOper := [
  ⟨some 1, .box 3 (.t 0), none⟩,
  ⟨some 2, .val (.mov (.k (.bool false))), none⟩]
def lanes_Right_r1 : List AOper := [
  ⟨some 8, .val (.field 0 (.t 1)), none⟩,
  ⟨some 9, .val (.load1 (.t 8)), none⟩,
  ⟨some 10, .val (.lenS (.t 9)), none⟩,
  ⟨some 11, .val (.bin .lss false (.t 10) (.k (.int .i64 1))), none⟩,
  ⟨some 12, .val (.mov (.t 11)), none⟩,
  ⟨some 13, .val (.field 0 (.t 1)), some (12, false)⟩,
  ⟨some 14, .val (.load1 (.t 13)), some (12, false)⟩,
  ⟨some 15, .val (.lenS (.t 14)), some (12, false)⟩,
  ⟨some 16, .val (.bin .gtr false (.t 15) (.k (.int .i64 6))), some (12, false)⟩,
  ⟨some 17, .val (.por (.t 12) (.t 16)), none⟩,
  ⟨some 18, .val (.mov (.t 17)), none⟩,
  ⟨some 19, .val (.field 1 (.t 1)), some (18, false)⟩,
  ⟨some 20, .val (.load1 (.t 19)), some (18, false)⟩,
  ⟨some 21, .val (.bin .lss false (.t 20) (.k (.int .i64 0))), some (18, false)⟩,
  ⟨some 22, .val (.por (.t 18) (.t 21)), none⟩,
  ⟨some 23, .val (.mov (.t 22)), none⟩,
  ⟨some 24, .val (.field 1 (.t 1)), some (23, false)⟩,
  ⟨some 25, .val (.load1 (.t 24)), some (23, false)⟩,
  ⟨some 26, .val (.field 0 (.t 1)), some (23, false)⟩,
  ⟨some 27, .val (.load1 (.t 26)), some (23, false)⟩,
  ⟨some 28, .val (.lenS (.t 27)), some (23, false)⟩,
  ⟨some 29, .val (.bin .geq false (.t 25) (.t 28)), some (23, false)⟩,
  ⟨some 30, .val (.por (.t 23) (.t 29)), none⟩]
def lanes_Right_r2 : List AOper := [
  ⟨some 2, .val (.mov (.k (.bool false))), none⟩]
def lanes_Right_r3 : List AOper := [
  ⟨some 31, .val (.field 0 (.t 1)), none⟩,
  ⟨some 32, .val (.load1 (.t 31)), none⟩,
  ⟨some 33, .val (.lenS (.t 32)), none⟩,
  ⟨some 34, .val (.mov (.k (.int .i64 0))), none⟩]
def lanes_Right_r4 : List AOper := [
  ⟨some 35, .val (.bin .lss false (.t 34) (.t 33)), none⟩]
def lanes_Right_r5 : List AOper := [
  ⟨some 36, .val (.mov (.t 34)), none⟩,
  ⟨some 37, .val (.ixS 3 (.t 32) (.t 34)), none⟩,
  ⟨some 38, .val (.loadA 3 (.t 37)), none⟩,
  ⟨some 4, .alloc 3 [.int .i64 0, .int .i64 0, .nil 1], none⟩,
  ⟨some 3, .val (.mov (.t 36)), none⟩,
  ⟨none, .stA true 3 (.t 4) (.t 38), none⟩]
def lanes_Right_r6 : List AOper := [
  ⟨some 5, .val (.mov (.k (.int .i64 7))), none⟩]
def lanes_Right_r7 : List AOper := [
  ⟨some 39, .val (.mov (.t 3)), none⟩,
  ⟨some 40, .val (.field 1 (.t 1)), none⟩,
  ⟨some 41, .val (.load1 (.t 40)), none⟩,
  ⟨some 42, .val (.bin .eql false (.t 39) (.t 41)), none⟩,
  ⟨some 43, .val (.mov (.t 42)), none⟩,
  ⟨some 44, .val (.field 2 (.t 1)), some (43, true)⟩,
  ⟨some 45, .val (.load1 (.t 44)), some (43, true)⟩,
  ⟨some 46, .val (.pand (.t 43) (.t 45)), none⟩]
def lanes_Right_r8 : List AOper := [
  ⟨some 5, .val (.mov (.k (.int .i64 39))), none⟩]
def lanes_Right_r9 : List AOper := [
  ⟨some 47, .val (.field 0 (.t 4)), none⟩,
  ⟨some 48, .val (.load1 (.t 47)), none⟩,
  ⟨some 49, .val (.bin .lss false (.t 48) (.k (.int .i64 1))), none⟩,
  ⟨some 50, .val (.mov (.t 49)), none⟩,
  ⟨some 51, .val (.field 0 (.t 4)), some (50, false)⟩,
  ⟨some 52, .val (.load1 (.t 51)), some (50, false)⟩,
  ⟨some 53, .val (.bin .gtr false (.t 52) (.k (.int .i64 8))), some (50, false)⟩,
  ⟨some 54, .val (.por (.t 50) (.t 53)), none⟩,
  ⟨some 55, .val (.mov (.t 54)), none⟩,
  ⟨some 56, .val (.field 1 (.t 4)), some (55, false)⟩,
  ⟨some 57, .val (.load1 (.t 56)), some (55, false)⟩,
  ⟨some 58, .val (.bin .lss false (.t 57) (.k (.int .i64 0))), some (55, false)⟩,
  ⟨some 59, .val (.por (.t 55) (.t 58)), none⟩,
  ⟨some 60, .val (.mov (.t 59)), none⟩,
  ⟨some 61, .val (.field 1 (.t 4)), some (60, false)⟩,
  ⟨some 62, .val (.load1 (.t 61)), some (60, false)⟩,
  ⟨some 63, .val (.mov (.t 5)), some (60, false)⟩,
  ⟨some 64, .val (.bin .gtr false (.t 62) (.t 63)), some (60, false)⟩,
  ⟨some 65, .val (.por (.t 60) (.t 64)), none⟩]
def lanes_Right_r10 : List AOper := [
  ⟨some 2, .val (.mov (.k (.bool false))), none⟩]
def lanes_Right_r11 : List AOper := [
  ⟨some 66, .val (.field 2 (.t 4)), none⟩,
  ⟨some 67, .val (.load1 (.t 66)), none⟩,
  ⟨some 68, .val (.lenS (.t 67)), none⟩,
  ⟨some 69, .val (.bin .gtr false (.t 68) (.k (.int .i64 200))), none⟩]
def lanes_Right_r12 : List AOper := [
  ⟨some 2, .val (.mov (.k (.bool false))), none⟩]
def lanes_Right_r13 : List AOper := [
  ⟨some 70, .val (.field 2 (.t 4)), none⟩,
  ⟨some 71, .val (.load1 (.t 70)), none⟩,
  ⟨some 72, .val (.lenS (.t 71)), none⟩,
  ⟨some 73, .val (.mov (.k (.int .i64 0))), none⟩]
def lanes_Right_r14 : List AOper := [
  ⟨some 74, .val (.bin .lss false (.t 73) (.t 72)), none⟩]
def lanes_Right_r15 : List AOper := [
  ⟨some 75, .val (.ixS 1 (.t 71) (.t 73)), none⟩,
  ⟨some 76, .val (.load1 (.t 75)), none⟩,
  ⟨some 7, .val (.mov (.t 76)), none⟩]
def lanes_Right_r16 : List AOper := [
  ⟨some 77, .val (.mov (.t 7)), none⟩,
  ⟨some 78, .val (.bin .lss false (.t 77) (.k (.int .i64 1))), none⟩,
  ⟨some 79, .val (.mov (.t 78)), none⟩,
  ⟨some 80, .val (.mov (.t 7)), some (79, false)⟩,
  ⟨some 81, .val (.bin .gtr false (.t 80) (.k (.int .i64 8))), some (79, false)⟩,
  ⟨some 82, .val (.por (.t 79) (.t 81)), none⟩]
def lanes_Right_r17 : List AOper := [
  ⟨some 2, .val (.mov (.k (.bool false))), none⟩]
def lanes_Right_r18 : List AOper := [
  ⟨some 83, .val (.bin .add true (.t 73) (.k (.int .i64 1))), none⟩,
  ⟨some 73, .val (.mov (.t 83)), none⟩]
def lanes_Right_r19 : List AOper := [
  ⟨some 84, .val (.bin .add true (.t 34) (.k (.int .i64 1))), none⟩,
  ⟨some 34, .val (.mov (.t 84)), none⟩]
def lanes_Right_r20 : List AOper := [
  ⟨some 2, .val (.mov (.k (.bool true))), none⟩]
def lanes_Right_c : ACode :=
  (.seq
    (.reg lanes_Right_r0 (some ([1], [1])))
    (.seq
      (.seq
        (.reg lanes_Right_r1 (some ([1, 30], [1])))
        (.cond (.t 30)
          (.seq
            (.reg lanes_Right_r2 (some ([2], [])))
            .ret)
          .skip))
      (.seq
        (.seq
          (.reg lanes_Right_r3 (some ([1, 32, 33, 34], [1])))
          (.block 0
            (.loop
              (.seq
                (.reg lanes_Right_r4 (some ([1, 32, 33, 34, 35], [1])))
                (.seq
                  (.cond (.t 35)
                    .skip
                    (.exit 0))
                  (.seq
                    (.block 1
                      (.seq
                        (.reg lanes_Right_r5 (some ([1, 3, 4, 32, 33, 34], [1, 4])))
                        (.seq
                          (.reg lanes_Right_r6 (some ([1, 3, 4, 5, 32, 33, 34], [1, 4])))
                          (.seq
                            (.seq
                              (.reg lanes_Right_r7 (some ([1, 4, 5, 32, 33, 34, 46], [1, 4])))
                              (.cond (.t 46)
                                (.reg lanes_Right_r8 (some ([1, 4, 5, 32, 33, 34], [1, 4])))
                                .skip))
                            (.seq
                              (.seq
                                (.reg lanes_Right_r9 (some ([1, 4, 32, 33, 34, 65], [1, 4])))
                                (.cond (.t 65)
                                  (.seq
                                    (.reg lanes_Right_r10 (some ([2], [])))
                                    .ret)
                                  .skip))
                              (.seq
                                (.seq
                                  (.reg lanes_Right_r11 (some ([1, 4, 32, 33, 34, 69], [1, 4])))
                                  (.cond (.t 69)
                                    (.seq
                                      (.reg lanes_Right_r12 (some ([2], [])))
                                      .ret)
                                    .skip))
                                (.seq
                                  (.reg lanes_Right_r13 (some ([1, 32, 33, 34, 71, 72, 73], [1])))
                                  (.block 2
                                    (.loop
                                      (.seq
                                        (.reg lanes_Right_r14 (some ([1, 32, 33, 34, 71, 72, 73, 74], [1])))
                                        (.seq
                                          (.cond (.t 74)
                                            .skip
                                            (.exit 2))
                                          (.seq
                                            (.block 3
                                              (.seq
                                                (.reg lanes_Right_r15 (some ([1, 7, 32, 33, 34, 71, 72, 73], [1])))
                                                (.seq
                                                  (.reg lanes_Right_r16 (some ([1, 32, 33, 34, 71, 72, 73, 82], [1])))
                                                  (.cond (.t 82)
                                                    (.seq
                                                      (.reg lanes_Right_r17 (some ([2], [])))
                                                      .ret)
                                                    .skip))))
                                            (.reg lanes_Right_r18 (some ([1, 32, 33, 34, 71, 72, 73], [1])))))))))))))))
                    (.reg lanes_Right_r19 (some ([1, 32, 33, 34], [1])))))))))
        (.seq
          (.reg lanes_Right_r20 (some ([2], [])))
          .ret))))
def lanes_Right_k (P : Program) (F : Nat → Nat) : Prop := chkFn P (F 76) 1 (lanes_Right_c) [2] = true
def lanes_Next_r0 : List AOper := [
  ⟨some 1, .box 3 (.t 0), none⟩,
  ⟨some 2, .alloc 3 [.nil 3, .int .i64 0, .bool false], none⟩,
  ⟨some 3, .val (.mov (.k (.int .i64 0))), none⟩,
  ⟨some 4, .val (.mov (.k (.int .i64 0))), none⟩,
  ⟨some 5, .val (.mov (.k (.bool false))), none⟩]
def lanes_Next_r1 (F : Nat → Nat) : List AOper := [
  ⟨some 8, .val (.loadA 3 (.t 1)), none⟩,
  ⟨some 9, .call (F 76) [(.t 8)], none⟩,
  ⟨some 10, .val (.not (.t 9)), none⟩,
  ⟨some 11, .val (.mov (.t 10)), none⟩,
  ⟨some 12, .val (.loadA 3 (.t 1)), some (11, false)⟩,
  ⟨some 13, .call (F 93) [(.t 12)], some (11, false)⟩,
  ⟨some 14, .val (.not (.t 13)), some (11, false)⟩,
  ⟨some 15, .val (.por (.t 11) (.t 14)), none⟩]
def lanes_Next_r2 : List AOper := [
  ⟨some 16, .val (.loadA 3 (.t 1)), none⟩,
  ⟨none, .stA true 3 (.t 2) (.t 16), none⟩,
  ⟨some 3, .val (.mov (.k (.int .i64 0))), none⟩,
  ⟨some 4, .val (.mov (.k (.int .i64 0))), none⟩,
  ⟨some 5, .val (.mov (.k (.bool false))), none⟩]
def lanes_Next_r3 (F : Nat → Nat) : List AOper := [
  ⟨some 17, .val (.field 0 (.t 1)), none⟩,
  ⟨some 18, .val (.load1 (.t 17)), none⟩,
  ⟨some 19, .call (F 77) [(.t 18)], none⟩,
  ⟨some 20, .val (.field 0 (.t 1)), none⟩,
  ⟨none, .st1 true (.t 20) (.t 19), none⟩]
def lanes_Next_r4 : List AOper := [
  ⟨some 6, .val (.mov (.k (.int .i64 0))), none⟩]
def lanes_Next_r6 : List AOper := [
  ⟨some 30, .val (.field 0 (.t 1)), none⟩,
  ⟨some 31, .val (.load1 (.t 30)), none⟩,
  ⟨some 32, .val (.field 1 (.t 1)), none⟩,
  ⟨some 33, .val (.load1 (.t 32)), none⟩,
  ⟨some 34, .val (.ixS 3 (.t 31) (.t 33)), none⟩,
  ⟨some 7, .val (.mov (.t 34)), none⟩]
def lanes_Next_r7 : List AOper := [
  ⟨some 35, .val (.mov (.t 7)), none⟩,
  ⟨some 36, .val (.nilc (.t 35)), none⟩,
  ⟨some 37, .val (.field 2 (.t 36)), none⟩,
  ⟨some 38, .val (.load1 (.t 37)), none⟩,
  ⟨some 39, .val (.lenS (.t 38)), none⟩,
  ⟨some 40, .val (.bin .eql false (.t 39) (.k (.int .i64 0))), none⟩]
def lanes_Next_r8 : List AOper := [
  ⟨some 41, .val (.mov (.t 7)), none⟩,
  ⟨some 42, .val (.nilc (.t 41)), none⟩,
  ⟨some 43, .val (.field 1 (.t 42)), none⟩,
  ⟨none, .st1 false (.t 43) (.k (.int .i64 0)), none⟩]
def lanes_Next_r9 : List AOper := [
  ⟨some 44, .val (.field 2 (.t 1)), none⟩,
  ⟨some 45, .val (.load1 (.t 44)), none⟩,
  ⟨some 46, .val (.not (.t 45)), none⟩]
def lanes_Next_r10 : List AOper := [
  ⟨some 47, .val (.mov (.t 7)), none⟩,
  ⟨some 48, .val (.nilc (.t 47)), none⟩,
  ⟨some 49, .val (.field 1 (.t 48)), none⟩,
  ⟨some 50, .val (.load1 (.t 49)), none⟩,
  ⟨some 51, .val (.mov (.t 7)), none⟩,
  ⟨some 52, .val (.nilc (.t 51)), none⟩,
  ⟨some 53, .val (.field 0 (.t 52)), none⟩,
  ⟨some 54, .val (.load1 (.t 53)), none⟩,
  ⟨some 55, .val (.bin .mul true (.t 54) (.k (.int .i64 4))), none⟩,
  ⟨some 56, .val (.bin .add true (.t 50) (.t 55)), none⟩,
  ⟨some 57, .val (.nilc (.t 47)), none⟩,
  ⟨some 58, .val (.field 1 (.t 57)), none⟩,
  ⟨none, .st1 false (.t 58) (.t 56), none⟩]
def lanes_Next_r11 : List AOper := [
  ⟨some 59, .val (.field 2 (.t 1)), none⟩,
  ⟨none, .st1 true (.t 59) (.k (.bool true)), none⟩]
def lanes_Next_r12 : List AOper := [
  ⟨some 60, .val (.mov (.t 7)), none⟩,
  ⟨some 61, .val (.nilc (.t 60)), none⟩,
  ⟨some 62, .val (.field 2 (.t 61)), none⟩,
  ⟨some 63, .val (.load1 (.t 62)), none⟩,
  ⟨some 64, .val (.ixS 1 (.t 63) (.k (.int .i64 0))), none⟩,
  ⟨some 65, .val (.load1 (.t 64)), none⟩,
  ⟨some 66, .val (.mov (.t 7)), none⟩,
  ⟨some 67, .val (.nilc (.t 66)), none⟩,
  ⟨some 68, .val (.field 1 (.t 67)), none⟩,
  ⟨some 69, .val (.load1 (.t 68)), none⟩,
  ⟨some 70, .val (.bin .gtr false (.t 65) (.t 69)), none⟩]
def lanes_Next_r13 : List AOper := [
  ⟨some 71, .val (.mov (.t 7)), none⟩,
  ⟨some 72, .val (.nilc (.t 71)), none⟩,
  ⟨some 73, .val (.field 2 (.t 72)), none⟩,
  ⟨some 74, .val (.load1 (.t 73)), none⟩,
  ⟨some 75, .val (.ixS 1 (.t 74) (.k (.int .i64 0))), none⟩,
  ⟨some 76, .val (.load1 (.t 75)), none⟩,
  ⟨some 6, .val (.mov (.t 76)), none⟩]
def lanes_Next_r14 (F : Nat → Nat) : List AOper := [
  ⟨some 77, .val (.mov (.t 7)), none⟩,
  ⟨some 78, .val (.mov (.t 7)), none⟩,
  ⟨some 79, .val (.nilc (.t 78)), none⟩,
  ⟨some 80, .val (.field 2 (.t 79)), none⟩,
  ⟨some 81, .val (.load1 (.t 80)), none⟩,
  ⟨some 82, .val (.slS 1 (.t 81) (some (.k (.int .i64 1))) none), none⟩,
  ⟨some 83, .call (F 78) [(.t 82)], none⟩,
  ⟨some 84, .val (.nilc (.t 77)), none⟩,
  ⟨some 85, .val (.field 2 (.t 84)), none⟩,
  ⟨none, .st1 false (.t 85) (.t 83), none⟩]
def lanes_Next_r15 : List AOper := [
  ⟨some 86, .val (.mov (.t 7)), none⟩,
  ⟨some 87, .val (.nilc (.t 86)), none⟩,
  ⟨some 88, .val (.field 1 (.t 87)), none⟩,
  ⟨some 89, .val (.load1 (.t 88)), none⟩,
  ⟨some 90, .val (.mov (.t 6)), none⟩,
  ⟨some 91, .val (.bin .sub true (.t 89) (.t 90)), none⟩,
  ⟨some 92, .val (.nilc (.t 86)), none⟩,
  ⟨some 93, .val (.field 1 (.t 92)), none⟩,
  ⟨none, .st1 false (.t 93) (.t 91), none⟩]
def lanes_Next_r16 : List AOper := [
  ⟨some 94, .val (.mov (.t 7)), none⟩,
  ⟨some 95, .val (.nilc (.t 94)), none⟩,
  ⟨some 96, .val (.field 2 (.t 95)), none⟩,
  ⟨some 97, .val (.load1 (.t 96)), none⟩,
  ⟨some 98, .val (.lenS (.t 97)), none⟩,
  ⟨some 99, .val (.bin .eql false (.t 98) (.k (.int .i64 0))), none⟩]
def lanes_Next_r17 : List AOper := [
  ⟨some 100, .val (.mov (.t 7)), none⟩,
  ⟨some 101, .val (.nilc (.t 100)), none⟩,
  ⟨some 102, .val (.field 1 (.t 101)), none⟩,
  ⟨none, .st1 false (.t 102) (.k (.int .i64 0)), none⟩]
def lanes_Next_r5 : List AOper := [
  ⟨some 21, .val (.field 1 (.t 1)), none⟩,
  ⟨some 22, .val (.load1 (.t 21)), none⟩,
  ⟨some 23, .val (.bin .add true (.t 22) (.k (.int .i64 1))), none⟩,
  ⟨some 24, .val (.field 0 (.t 1)), none⟩,
  ⟨some 25, .val (.load1 (.t 24)), none⟩,
  ⟨some 26, .val (.lenS (.t 25)), none⟩,
  ⟨some 27, .val (.bin .rem true (.t 23) (.t 26)), none⟩,
  ⟨some 28, .val (.field 1 (.t 1)), none⟩,
  ⟨none, .st1 true (.t 28) (.t 27), none⟩,
  ⟨some 29, .val (.field 2 (.t 1)), none⟩,
  ⟨none, .st1 true (.t 29) (.k (.bool false)), none⟩]
def lanes_Next_r18 : List AOper := [
  ⟨some 103, .val (.loadA 3 (.t 1)), none⟩,
  ⟨some 104, .val (.field 1 (.t 1)), none⟩,
  ⟨some 105, .val (.load1 (.t 104)), none⟩,
  ⟨some 106, .val (.mov (.t 6)), none⟩,
  ⟨none, .stA true 3 (.t 2) (.t 103), none⟩,
  ⟨some 3, .val (.mov (.t 105)), none⟩,
  ⟨some 4, .val (.mov (.t 106)), none⟩,
  ⟨some 5, .val (.mov (.k (.bool true))), none⟩]
def lanes_Next_c (F : Nat → Nat) : ACode :=
  (.seq
    (.reg lanes_Next_r0 (some ([1, 2], [1, 2, 1019, 1083])))
    (.scope
      (.seq
        (.seq
          (.reg (lanes_Next_r1 F) (some ([1, 2, 15], [1, 2, 1019, 1083])))
          (.cond (.t 15)
            (.seq
              (.reg lanes_Next_r2 (some ([2, 3, 4, 5], [2, 1019, 1083])))
              .ret)
            .skip))
        (.seq
          (.reg (lanes_Next_r3 F) (some ([1, 2], [1, 2, 1019, 1083])))
          (.seq
            (.reg lanes_Next_r4 (some ([1, 2], [1, 2, 1019, 1083])))
            (.seq
              .skip
              (.seq
                (.block 0
                  (.loop
                    (.seq
                      (.block 1
                        (.seq
                          (.reg lanes_Next_r6 (some ([1, 2, 7], [1, 2, 1019, 1083])))
                          (.seq
                            (.seq
                              (.reg lanes_Next_r7 (some ([1, 2, 7, 40], [1, 2, 1019, 1083])))
                              (.cond (.t 40)
                                (.seq
                                  (.reg lanes_Next_r8 (some ([1, 2], [1, 2, 1019, 1083])))
                                  (.exit 1))
                                .skip))
                            (.seq
                              (.seq
                                (.reg lanes_Next_r9 (some ([1, 2, 7, 46], [1, 2, 1019, 1083])))
                                (.cond (.t 46)
                                  (.seq
                                    (.regD lanes_Next_r10 [] (some ([1, 2, 7], [1, 2, 1019, 1083])))
                                    (.reg lanes_Next_r11 (some ([1, 2, 7], [1, 2, 1019, 1083]))))
                                  .skip))
                              (.seq
                                (.seq
                                  (.regD lanes_Next_r12 [] (some ([1, 2, 7, 70], [1, 2, 1019, 1083])))
                                  (.cond (.t 70)
                                    (.exit 1)
                                    .skip))
                                (.seq
                                  (.reg lanes_Next_r13 (some ([1, 2, 6, 7], [1, 2, 1019, 1083])))
                                  (.seq
                                    (.reg (lanes_Next_r14 F) (some ([1, 2, 6, 7], [1, 2, 1019, 1083])))
                                    (.seq
                                      (.reg lanes_Next_r15 (some ([1, 2, 6, 7], [1, 2, 1019, 1083])))
                                      (.seq
                                        (.seq
                                          (.reg lanes_Next_r16 (some ([1, 2, 6, 7, 99], [1, 2, 1019, 1083])))
                                          (.cond (.t 99)
                                            (.reg lanes_Next_r17 (some ([1, 2, 6], [1, 2, 1019, 1083])))
                                            .skip))
                                        (.exit 0))))))))))
                      (.reg lanes_Next_r5 (some ([1, 2], [1, 2, 1019, 1083]))))))
                (.seq
                  (.regD lanes_Next_r18 [(1, 4), (2, 4), (3, 4)] (some ([2, 3, 4, 5], [2, 1019, 1083])))
                  .ret))))))))
def lanes_Next_k (P : Program) (F : Nat → Nat) : Prop := chkFn P (F 86) 1 (lanes_Next_c F) [.loadA 3 (.t 2), 3, 4, 5] = true
def sl_Clone_lanes_Lane_r0 : List AOper := [
  ⟨some 2, .val (.mov (.k (.nil 3))), none⟩]
def sl_Clone_lanes_Lane_r1 : List AOper := [
  ⟨some 3, .val (.mov (.t 0)), none⟩,
  ⟨some 4, .val (.nilS (.t 3)), none⟩]
def sl_Clone_lanes_Lane_r2 : List AOper := [
  ⟨some 2, .val (.mov (.k (.nil 3))), none⟩]
def sl_Clone_lanes_Lane_r3 : List AOper := [
  ⟨some 5, .buildS 3 0 [.int .i64 0, .int .i64 0, .nil 1] [], none⟩,
  ⟨some 6, .val (.mov (.t 0)), none⟩,
  ⟨some 7, .app 3 40 (.t 5) (.t 6), none⟩,
  ⟨some 2, .val (.mov (.t 7)), none⟩]
def sl_Clone_lanes_Lane_c : ACode :=
  (.seq
    (.reg sl_Clone_lanes_Lane_r0 (some ([0], [5, 7])))
    (.seq
      (.seq
        (.reg sl_Clone_lanes_Lane_r1 (some ([0, 4], [5, 7])))
        (.cond (.t 4)
          (.seq
            (.reg sl_Clone_lanes_Lane_r2 (some ([2], [5, 7])))
            .ret)
          .skip))
      (.seq
        (.reg sl_Clone_lanes_Lane_r3 (some ([2], [5, 7])))
        .ret)))
def sl_Clone_lanes_Lane_k (P : Program) (F : Nat → Nat) : Prop := chkFn P (F 77) 1 (sl_Clone_lanes_Lane_c) [2] = true
def sl_Clone_int_r0 : List AOper := [
  ⟨some 2, .val (.mov (.k (.nil 1))), none⟩]
def sl_Clone_int_r1 : List AOper := [
  ⟨some 3, .val (.mov (.t 0)), none⟩,
  ⟨some 4, .val (.nilS (.t 3)), none⟩]
def sl_Clone_int_r2 : List AOper := [
  ⟨some 2, .val (.mov (.k (.nil 1))), none⟩]
def sl_Clone_int_r3 : List AOper := [
  ⟨some 5, .buildS 1 0 [.int .i64 0] [], none⟩,
  ⟨some 6, .val (.mov (.t 0)), none⟩,
  ⟨some 7, .app 1 8 (.t 5) (.t 6), none⟩,
  ⟨some 2, .val (.mov (.t 7)), none⟩]
def sl_Clone_int_c : ACode :=
  (.seq
    (.reg sl_Clone_int_r0 (some ([0], [5, 7])))
    (.seq
      (.seq
        (.reg sl_Clone_int_r1 (some ([0, 4], [5, 7])))
        (.cond (.t 4)
          (.seq
            (.reg sl_Clone_int_r2 (some ([2], [5, 7])))
            .ret)
          .skip))
      (.seq
        (.reg sl_Clone_int_r3 (some ([2], [5, 7])))
        .ret)))
def sl_Clone_int_k (P : Program) (F : Nat → Nat) : Prop := chkFn P (F 78) 1 (sl_Clone_int_c) [2] = true
def lanes_waits_r0 : List AOper := [
  ⟨some 1, .box 3 (.t 0), none⟩,
  ⟨some 2, .val (.mov (.k (.bool false))), none⟩]
def lanes_waits_r1 (F : Nat → Nat) : List AOper := [
  ⟨some 3, .val (.field 0 (.t 1)), none⟩,
  ⟨some 4, .val (.load1 (.t 3)), none⟩,
  ⟨some 5, .call (F 94) [(.t 4), (.k (.fn (F 95)))], none⟩,
  ⟨some 2, .val (.mov (.t 5)), none⟩]
def lanes_waits_c (F : Nat → Nat) : ACode :=
  (.seq
    (.reg lanes_waits_r0 (some ([1], [1])))
    (.seq
      (.reg (lanes_waits_r1 F) (some ([2], [])))
      .ret))
def lanes_waits_k (P : Program) (F : Nat → Nat) : Prop := chkFn P (F 93) 1 (lanes_waits_c F) [2] = true
def sl_ContainsFunc_lanes_Lane_r0 : List AOper := [
  ⟨some 4, .val (.mov (.k (.bool false))), none⟩]
def sl_ContainsFunc_lanes_Lane_r1 (F : Nat → Nat) : List AOper := [
  ⟨some 5, .val (.mov (.t 0)), none⟩,
  ⟨some 6, .val (.mov (.t 1)), none⟩,
  ⟨some 7, .call (F 144) [(.t 5), (.t 6)], none⟩,
  ⟨some 8, .val (.bin .geq false (.t 7) (.k (.int .i64 0))), none⟩,
  ⟨some 4, .val (.mov (.t 8)), none⟩]
def sl_ContainsFunc_lanes_Lane_c (F : Nat → Nat) : ACode :=
  (.seq
    (.reg sl_ContainsFunc_lanes_Lane_r0 (some ([0, 1], [])))
    (.seq
      (.reg (sl_ContainsFunc_lanes_Lane_r1 F) (some ([4], [])))
      .ret))
def sl_ContainsFunc_lanes_Lane_k (P : Program) (F : Nat → Nat) : Prop := chkFn P (F 94) 2 (sl_ContainsFunc_lanes_Lane_c F) [4] = true
def lanes_waits_1_r0 : List AOper := [
  ⟨some 1, .box 3 (.t 0), none⟩,
  ⟨some 2, .val (.mov (.k (.bool false))), none⟩]
def lanes_waits_1_r1 : List AOper := [
  ⟨some 3, .val (.field 2 (.t 1)), none⟩,
  ⟨some 4, .val (.load1 (.t 3)), none⟩,
  ⟨some 5, .val (.lenS (.t 4)), none⟩,
  ⟨some 6, .val (.bin .gtr false (.t 5) (.k (.int .i64 0))), none⟩,
  ⟨some 2, .val (.mov (.t 6)), none⟩]
def lanes_waits_1_c : ACode :=
  (.seq
    (.reg lanes_waits_1_r0 (some ([1], [1])))
    (.seq
      (.reg lanes_waits_1_r1 (some ([2], [])))
      .ret))
def lanes_waits_1_k (P : Program) (F : Nat → Nat) : Prop := chkFn P (F 95) 1 (lanes_waits_1_c) [2] = true
def sl_IndexFunc_lanes_Lane_r0 : List AOper := [
  ⟨some 4, .val (.mov (.k (.int .i64 0))), none⟩]
def sl_IndexFunc_lanes_Lane_r1 : List AOper := [
  ⟨some 6, .val (.mov (.t 0)), none⟩,
  ⟨some 7, .val (.lenS (.t 6)), none⟩,
  ⟨some 8, .val (.mov (.k (.int .i64 0))), none⟩]
def sl_IndexFunc_lanes_Lane_r2 : List AOper := [
  ⟨some 9, .val (.bin .lss false (.t 8) (.t 7)), none⟩]
def sl_IndexFunc_lanes_Lane_r3 : List AOper := [
  ⟨some 10, .val (.mov (.t 8)), none⟩,
  ⟨some 5, .val (.mov (.t 10)), none⟩]
def sl_IndexFunc_lanes_Lane_r4 : List AOper := [
  ⟨some 11, .val (.mov (.t 1)), none⟩,
  ⟨some 12, .val (.mov (.t 0)), none⟩,
  ⟨some 13, .val (.mov (.t 5)), none⟩,
  ⟨some 14, .val (.ixS 3 (.t 12) (.t 13)), none⟩,
  ⟨some 15, .val (.loadA 3 (.t 14)), none⟩,
  ⟨some 16, .callv (.t 11) [(.t 15)], none⟩]
def sl_IndexFunc_lanes_Lane_r5 : List AOper := [
  ⟨some 17, .val (.mov (.t 5)), none⟩,
  ⟨some 4, .val (.mov (.t 17)), none⟩]
def sl_IndexFunc_lanes_Lane_r6 : List AOper := [
  ⟨some 18, .val (.bin .add true (.t 8) (.k (.int .i64 1))), none⟩,
  ⟨some 8, .val (.mov (.t 18)), none⟩]
def sl_IndexFunc_lanes_Lane_r7 : List AOper := [
  ⟨some 4, .val (.mov (.k (.int .i64 (-1)))), none⟩]
def sl_IndexFunc_lanes_Lane_c : ACode :=
  (.seq
    (.reg sl_IndexFunc_lanes_Lane_r0 (some ([0, 1], [])))
    (.seq
      (.seq
        (.reg sl_IndexFunc_lanes_Lane_r1 (some ([0, 1, 7, 8], [])))
        (.block 0
          (.loop
            (.seq
              (.reg sl_IndexFunc_lanes_Lane_r2 (some ([0, 1, 7, 8, 9], [])))
              (.seq
                (.cond (.t 9)
                  .skip
                  (.exit 0))
                (.seq
                  (.block 1
                    (.seq
                      (.reg sl_IndexFunc_lanes_Lane_r3 (some ([0, 1, 5, 7, 8], [])))
                      (.seq
                        (.reg sl_IndexFunc_lanes_Lane_r4 (some ([0, 1, 5, 7, 8, 16], [])))
                        (.cond (.t 16)
                          (.seq
                            (.reg sl_IndexFunc_lanes_Lane_r5 (some ([4], [])))
                            .ret)
                          .skip))))
                  (.reg sl_IndexFunc_lanes_Lane_r6 (some ([0, 1, 7, 8], [])))))))))
      (.seq
        (.reg sl_IndexFunc_lanes_Lane_r7 (some ([4], [])))
        .ret)))
def sl_IndexFunc_lanes_Lane_k (P : Program) (F : Nat → Nat) : Prop := chkFn P (F 144) 2 (sl_IndexFunc_lanes_Lane_c) [4] = true
end Lk.C
