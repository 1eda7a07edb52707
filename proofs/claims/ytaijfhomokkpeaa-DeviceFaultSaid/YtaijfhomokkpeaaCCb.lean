/-
  CCb: what these chapters need.
-/
import Derived.Test.YtaijfhomokkpeaaLkC
set_option linter.unusedSimpArgs false
set_option linter.unusedVariables false
namespace Lk.C
open Go Lk
def disk_New_r0 : List AOper := [
  ⟨some 2, .alloc 2 [.nil 1, .nil 2], none⟩,
  ⟨some 3, .val (.mov (.k (.int .i64 0))), none⟩]
def disk_New_r1 : List AOper := [
  ⟨some 6, .val (.mov (.t 0)), none⟩,
  ⟨some 7, .val (.bin .lss false (.t 6) (.k (.int .i64 1))), none⟩,
  ⟨some 8, .val (.mov (.t 7)), none⟩,
  ⟨some 9, .val (.mov (.t 0)), some (8, false)⟩,
  ⟨some 10, .val (.bin .gtr false (.t 9) (.k (.int .i64 64))), some (8, false)⟩,
  ⟨some 11, .val (.por (.t 8) (.t 10)), none⟩]
def disk_New_r2 : List AOper := [
  ⟨some 12, .val (.build 2 [.nil 1, .nil 2] []), none⟩,
  ⟨none, .stA true 2 (.t 2) (.t 12), none⟩,
  ⟨some 3, .val (.mov (.k (.int .i64 1))), none⟩]
def disk_New_r3 : List AOper := [
  ⟨some 13, .val (.mov (.t 0)), none⟩,
  ⟨some 14, .mk 1 16 [.str []] (.t 13), none⟩,
  ⟨some 4, .val (.mov (.t 14)), none⟩]
def disk_New_r4 : List AOper := [
  ⟨some 15, .val (.mov (.t 4)), none⟩,
  ⟨some 16, .val (.lenS (.t 15)), none⟩,
  ⟨some 17, .val (.mov (.k (.int .i64 0))), none⟩]
def disk_New_r5 : List AOper := [
  ⟨some 18, .val (.bin .lss false (.t 17) (.t 16)), none⟩]
def disk_New_r6 : List AOper := [
  ⟨some 19, .val (.mov (.t 17)), none⟩,
  ⟨some 5, .val (.mov (.t 19)), none⟩]
def disk_New_r7 (F : Nat → Nat) : List AOper := [
  ⟨some 20, .val (.mov (.t 4)), none⟩,
  ⟨some 21, .val (.mov (.t 5)), none⟩,
  ⟨some 22, .call (F 49) [(.k (.str [0])), (.k (.int .i64 16))], none⟩,
  ⟨some 23, .val (.ixS 1 (.t 20) (.t 21)), none⟩,
  ⟨none, .st1 false (.t 23) (.t 22), none⟩]
def disk_New_r8 : List AOper := [
  ⟨some 24, .val (.bin .add true (.t 17) (.k (.int .i64 1))), none⟩,
  ⟨some 17, .val (.mov (.t 24)), none⟩]
def disk_New_r9 : List AOper := [
  ⟨some 25, .val (.mov (.t 4)), none⟩,
  ⟨some 26, .val (.build 2 [.nil 1, .nil 2] [(0, 1, (.t 25))]), none⟩,
  ⟨none, .stA true 2 (.t 2) (.t 26), none⟩,
  ⟨some 3, .val (.mov (.k (.int .i64 0))), none⟩]
def disk_New_c (F : Nat → Nat) : ACode :=
  (.seq
    (.reg disk_New_r0 (some ([0, 2], [2, 14])))
    (.seq
      (.seq
        (.reg disk_New_r1 (some ([0, 2, 11], [2, 14])))
        (.cond (.t 11)
          (.seq
            (.reg disk_New_r2 (some ([2, 3], [2, 14])))
            .ret)
          .skip))
      (.seq
        (.reg disk_New_r3 (some ([2, 4], [2, 14])))
        (.seq
          (.seq
            (.reg disk_New_r4 (some ([2, 4, 16, 17], [2, 14])))
            (.block 0
              (.loop
                (.seq
                  (.reg disk_New_r5 (some ([2, 4, 16, 17, 18], [2, 14])))
                  (.seq
                    (.cond (.t 18)
                      .skip
                      (.exit 0))
                    (.seq
                      (.block 1
                        (.seq
                          (.reg disk_New_r6 (some ([2, 4, 5, 16, 17], [2, 14])))
                          (.reg (disk_New_r7 F) (some ([2, 4, 16, 17], [2, 14])))))
                      (.reg disk_New_r8 (some ([2, 4, 16, 17], [2, 14])))))))))
          (.seq
            (.reg disk_New_r9 (some ([2, 3], [2, 14])))
            .ret)))))
def disk_New_k (P : Program) (F : Nat → Nat) : Prop := chkFn P (F 28) 1 (disk_New_c F) [.loadA 2 (.t 2), 3] = true
def law03_awake_r0 : List AOper := [
  ⟨some 0, .val (.mov (.k (.bool false))), none⟩]
def law03_awake_r1 (F : Nat → Nat) : List AOper := [
  ⟨some 9, .call (F 28) [(.k (.int .i64 2))], none⟩,
  ⟨some 8, .val (.mov (.t 9)), none⟩,
  ⟨some 10, .val (.extr 0 (.t 8)), none⟩,
  ⟨some 11, .val (.extr 1 (.t 8)), none⟩,
  ⟨some 1, .alloc 2 [.nil 1, .nil 2], none⟩,
  ⟨none, .stA true 2 (.t 1) (.t 10), none⟩,
  ⟨some 2, .val (.mov (.t 11)), none⟩]
def law03_awake_r2 (F : Nat → Nat) : List AOper := [
  ⟨some 13, .val (.loadA 2 (.t 1)), none⟩,
  ⟨some 14, .val (.build 2 [.int .i64 0, .str []] [(0, 1, (.k (.int .i64 1))), (1, 1, (.k (.str [48, 49, 50, 51, 52, 53, 54, 55, 56, 57, 97, 98, 99, 100, 101, 102])))]), none⟩,
  ⟨some 15, .call (F 36) [(.t 13), (.t 14)], none⟩,
  ⟨some 12, .val (.mov (.t 15)), none⟩,
  ⟨some 16, .val (.extr 0 (.t 12)), none⟩,
  ⟨some 17, .val (.extr 1 (.t 12)), none⟩,
  ⟨none, .stA true 2 (.t 1) (.t 16), none⟩,
  ⟨some 3, .val (.mov (.t 17)), none⟩]
def law03_awake_r3 (F : Nat → Nat) : List AOper := [
  ⟨some 19, .val (.loadA 2 (.t 1)), none⟩,
  ⟨some 20, .call (F 37) [(.t 19), (.k (.int .i64 1))], none⟩,
  ⟨some 18, .val (.mov (.t 20)), none⟩,
  ⟨some 21, .val (.extr 0 (.t 18)), none⟩,
  ⟨some 22, .val (.extr 1 (.t 18)), none⟩,
  ⟨some 4, .val (.mov (.t 21)), none⟩,
  ⟨some 5, .val (.mov (.t 22)), none⟩]
def law03_awake_r4 (F : Nat → Nat) : List AOper := [
  ⟨some 24, .val (.loadA 2 (.t 1)), none⟩,
  ⟨some 25, .call (F 33) [(.t 24), (.k (.nil 1))], none⟩,
  ⟨some 26, .call (F 37) [(.t 25), (.k (.int .i64 1))], none⟩,
  ⟨some 23, .val (.mov (.t 26)), none⟩,
  ⟨some 27, .val (.extr 0 (.t 23)), none⟩,
  ⟨some 28, .val (.extr 1 (.t 23)), none⟩,
  ⟨some 6, .val (.mov (.t 27)), none⟩,
  ⟨some 7, .val (.mov (.t 28)), none⟩]
def law03_awake_r5 (F : Nat → Nat) : List AOper := [
  ⟨some 29, .val (.mov (.t 2)), none⟩,
  ⟨some 30, .val (.bin .eql false (.t 29) (.k (.int .i64 0))), none⟩,
  ⟨some 31, .val (.mov (.t 30)), none⟩,
  ⟨some 32, .val (.mov (.t 3)), some (31, true)⟩,
  ⟨some 33, .val (.bin .eql false (.t 32) (.k (.int .i64 0))), some (31, true)⟩,
  ⟨some 34, .val (.pand (.t 31) (.t 33)), none⟩,
  ⟨some 35, .val (.mov (.t 34)), none⟩,
  ⟨some 36, .val (.mov (.t 4)), some (35, true)⟩,
  ⟨some 37, .val (.bin .eql false (.t 36) (.k (.str [48, 49, 50, 51, 52, 53, 54, 55, 56, 57, 97, 98, 99, 100, 101, 102]))), some (35, true)⟩,
  ⟨some 38, .val (.pand (.t 35) (.t 37)), none⟩,
  ⟨some 39, .val (.mov (.t 38)), none⟩,
  ⟨some 40, .val (.mov (.t 5)), some (39, true)⟩,
  ⟨some 41, .val (.bin .eql false (.t 40) (.k (.int .i64 0))), some (39, true)⟩,
  ⟨some 42, .val (.pand (.t 39) (.t 41)), none⟩,
  ⟨some 43, .val (.mov (.t 42)), none⟩,
  ⟨some 44, .val (.mov (.t 6)), some (43, true)⟩,
  ⟨some 45, .val (.lenT (.t 44)), some (43, true)⟩,
  ⟨some 46, .val (.bin .eql false (.t 45) (.k (.int .i64 16))), some (43, true)⟩,
  ⟨some 47, .val (.pand (.t 43) (.t 46)), none⟩,
  ⟨some 48, .val (.mov (.t 47)), none⟩,
  ⟨some 49, .val (.mov (.t 6)), some (48, true)⟩,
  ⟨some 50, .val (.idx (.t 49) (.k (.int .i64 0))), some (48, true)⟩,
  ⟨some 51, .val (.bin .eql false (.t 50) (.k (.int .u8 0))), some (48, true)⟩,
  ⟨some 52, .val (.pand (.t 48) (.t 51)), none⟩,
  ⟨some 53, .val (.mov (.t 52)), none⟩,
  ⟨some 54, .val (.mov (.t 7)), some (53, true)⟩,
  ⟨some 55, .val (.bin .eql false (.t 54) (.k (.int .i64 0))), some (53, true)⟩,
  ⟨some 56, .val (.pand (.t 53) (.t 55)), none⟩,
  ⟨some 57, .val (.mov (.t 56)), none⟩,
  ⟨some 58, .val (.loadA 2 (.t 1)), some (57, true)⟩,
  ⟨some 59, .call (F 40) [(.t 58)], some (57, true)⟩,
  ⟨some 60, .val (.pand (.t 57) (.t 59)), none⟩,
  ⟨some 0, .val (.mov (.t 60)), none⟩]
def law03_awake_c (F : Nat → Nat) : ACode :=
  (.seq
    (.reg law03_awake_r0 (some ([], [])))
    (.seq
      (.reg (law03_awake_r1 F) (some ([1, 2], [1])))
      (.seq
        (.reg (law03_awake_r2 F) (some ([1, 2, 3], [1])))
        (.seq
          (.reg (law03_awake_r3 F) (some ([1, 2, 3, 4, 5], [1])))
          (.seq
            (.reg (law03_awake_r4 F) (some ([1, 2, 3, 4, 5, 6, 7], [1])))
            (.seq
              (.reg (law03_awake_r5 F) (some ([0], [])))
              .ret))))))
def law03_awake_k (P : Program) (F : Nat → Nat) : Prop := chkFn P (F 29) 0 (law03_awake_c F) [0] = true
def ref03_Small_r0 : List AOper := [
  ⟨some 1, .box 2 (.t 0), none⟩,
  ⟨some 2, .val (.mov (.k (.bool false))), none⟩]
def ref03_Small_r1 : List AOper := [
  ⟨some 5, .val (.field 0 (.t 1)), none⟩,
  ⟨some 6, .val (.load1 (.t 5)), none⟩,
  ⟨some 7, .val (.lenS (.t 6)), none⟩,
  ⟨some 8, .val (.bin .gtr false (.t 7) (.k (.int .i64 80))), none⟩,
  ⟨some 9, .val (.mov (.t 8)), none⟩,
  ⟨some 10, .val (.field 1 (.t 1)), some (9, false)⟩,
  ⟨some 11, .val (.load1 (.t 10)), some (9, false)⟩,
  ⟨some 12, .val (.lenS (.t 11)), some (9, false)⟩,
  ⟨some 13, .val (.bin .gtr false (.t 12) (.k (.int .i64 220))), some (9, false)⟩,
  ⟨some 14, .val (.por (.t 9) (.t 13)), none⟩]
def ref03_Small_r2 : List AOper := [
  ⟨some 2, .val (.mov (.k (.bool false))), none⟩]
def ref03_Small_r3 : List AOper := [
  ⟨some 3, .val (.mov (.k (.int .i64 0))), none⟩]
def ref03_Small_r4 : List AOper := [
  ⟨some 15, .val (.mov (.t 3)), none⟩,
  ⟨some 16, .val (.field 0 (.t 1)), none⟩,
  ⟨some 17, .val (.load1 (.t 16)), none⟩,
  ⟨some 18, .val (.lenS (.t 17)), none⟩,
  ⟨some 19, .val (.bin .lss false (.t 15) (.t 18)), none⟩]
def ref03_Small_r6 : List AOper := [
  ⟨some 22, .val (.field 0 (.t 1)), none⟩,
  ⟨some 23, .val (.load1 (.t 22)), none⟩,
  ⟨some 24, .val (.mov (.t 3)), none⟩,
  ⟨some 25, .val (.ixS 1 (.t 23) (.t 24)), none⟩,
  ⟨some 26, .val (.load1 (.t 25)), none⟩,
  ⟨some 27, .val (.lenT (.t 26)), none⟩,
  ⟨some 28, .val (.bin .gtr false (.t 27) (.k (.int .i64 40))), none⟩]
def ref03_Small_r7 : List AOper := [
  ⟨some 2, .val (.mov (.k (.bool false))), none⟩]
def ref03_Small_r5 : List AOper := [
  ⟨some 20, .val (.mov (.t 3)), none⟩,
  ⟨some 21, .val (.bin .add true (.t 20) (.k (.int .i64 1))), none⟩,
  ⟨some 3, .val (.mov (.t 21)), none⟩]
def ref03_Small_r8 : List AOper := [
  ⟨some 4, .val (.mov (.k (.int .i64 0))), none⟩]
def ref03_Small_r9 : List AOper := [
  ⟨some 29, .val (.mov (.t 4)), none⟩,
  ⟨some 30, .val (.field 1 (.t 1)), none⟩,
  ⟨some 31, .val (.load1 (.t 30)), none⟩,
  ⟨some 32, .val (.lenS (.t 31)), none⟩,
  ⟨some 33, .val (.bin .lss false (.t 29) (.t 32)), none⟩]
def ref03_Small_r11 : List AOper := [
  ⟨some 36, .val (.field 1 (.t 1)), none⟩,
  ⟨some 37, .val (.load1 (.t 36)), none⟩,
  ⟨some 38, .val (.mov (.t 4)), none⟩,
  ⟨some 39, .val (.ixS 2 (.t 37) (.t 38)), none⟩,
  ⟨some 40, .val (.field 1 (.t 39)), none⟩,
  ⟨some 41, .val (.load1 (.t 40)), none⟩,
  ⟨some 42, .val (.lenT (.t 41)), none⟩,
  ⟨some 43, .val (.bin .gtr false (.t 42) (.k (.int .i64 40))), none⟩]
def ref03_Small_r12 : List AOper := [
  ⟨some 2, .val (.mov (.k (.bool false))), none⟩]
def ref03_Small_r10 : List AOper := [
  ⟨some 34, .val (.mov (.t 4)), none⟩,
  ⟨some 35, .val (.bin .add true (.t 34) (.k (.int .i64 1))), none⟩,
  ⟨some 4, .val (.mov (.t 35)), none⟩]
def ref03_Small_r13 : List AOper := [
  ⟨some 2, .val (.mov (.k (.bool true))), none⟩]
def ref03_Small_c : ACode :=
  (.seq
    (.reg ref03_Small_r0 (some ([1], [1])))
    (.seq
      (.seq
        (.reg ref03_Small_r1 (some ([1, 14], [1])))
        (.cond (.t 14)
          (.seq
            (.reg ref03_Small_r2 (some ([2], [])))
            .ret)
          .skip))
      (.seq
        (.seq
          (.reg ref03_Small_r3 (some ([1, 3], [1])))
          (.block 0
            (.loop
              (.seq
                (.seq
                  (.reg ref03_Small_r4 (some ([1, 3, 19], [1])))
                  (.cond (.t 19)
                    .skip
                    (.exit 0)))
                (.seq
                  (.block 1
                    (.seq
                      (.reg ref03_Small_r6 (some ([1, 3, 28], [1])))
                      (.cond (.t 28)
                        (.seq
                          (.reg ref03_Small_r7 (some ([2], [])))
                          .ret)
                        .skip)))
                  (.reg ref03_Small_r5 (some ([1, 3], [1]))))))))
        (.seq
          (.seq
            (.reg ref03_Small_r8 (some ([1, 4], [1])))
            (.block 2
              (.loop
                (.seq
                  (.seq
                    (.reg ref03_Small_r9 (some ([1, 4, 33], [1])))
                    (.cond (.t 33)
                      .skip
                      (.exit 2)))
                  (.seq
                    (.block 3
                      (.seq
                        (.reg ref03_Small_r11 (some ([1, 4, 43], [1])))
                        (.cond (.t 43)
                          (.seq
                            (.reg ref03_Small_r12 (some ([2], [])))
                            .ret)
                          .skip)))
                    (.reg ref03_Small_r10 (some ([1, 4], [1]))))))))
          (.seq
            (.reg ref03_Small_r13 (some ([2], [])))
            .ret)))))
def ref03_Small_k (P : Program) (F : Nat → Nat) : Prop := chkFn P (F 31) 1 (ref03_Small_c) [2] = true
def ref03_Right_r0 : List AOper := [
  ⟨some 1, .box 2 (.t 0), none⟩,
  ⟨some 2, .val (.mov (.k (.bool false))), none⟩]
def ref03_Right_r1 : List AOper := [
  ⟨some 6, .val (.field 0 (.t 1)), none⟩,
  ⟨some 7, .val (.load1 (.t 6)), none⟩,
  ⟨some 8, .val (.lenS (.t 7)), none⟩,
  ⟨some 9, .val (.bin .lss false (.t 8) (.k (.int .i64 1))), none⟩,
  ⟨some 10, .val (.mov (.t 9)), none⟩,
  ⟨some 11, .val (.field 0 (.t 1)), some (10, false)⟩,
  ⟨some 12, .val (.load1 (.t 11)), some (10, false)⟩,
  ⟨some 13, .val (.lenS (.t 12)), some (10, false)⟩,
  ⟨some 14, .val (.bin .gtr false (.t 13) (.k (.int .i64 64))), some (10, false)⟩,
  ⟨some 15, .val (.por (.t 10) (.t 14)), none⟩,
  ⟨some 16, .val (.mov (.t 15)), none⟩,
  ⟨some 17, .val (.field 1 (.t 1)), some (16, false)⟩,
  ⟨some 18, .val (.load1 (.t 17)), some (16, false)⟩,
  ⟨some 19, .val (.lenS (.t 18)), some (16, false)⟩,
  ⟨some 20, .val (.bin .gtr false (.t 19) (.k (.int .i64 200))), some (16, false)⟩,
  ⟨some 21, .val (.por (.t 16) (.t 20)), none⟩]
def ref03_Right_r2 : List AOper := [
  ⟨some 2, .val (.mov (.k (.bool false))), none⟩]
def ref03_Right_r3 : List AOper := [
  ⟨some 3, .val (.mov (.k (.int .i64 0))), none⟩]
def ref03_Right_r4 : List AOper := [
  ⟨some 22, .val (.mov (.t 3)), none⟩,
  ⟨some 23, .val (.field 0 (.t 1)), none⟩,
  ⟨some 24, .val (.load1 (.t 23)), none⟩,
  ⟨some 25, .val (.lenS (.t 24)), none⟩,
  ⟨some 26, .val (.bin .lss false (.t 22) (.t 25)), none⟩]
def ref03_Right_r6 : List AOper := [
  ⟨some 29, .val (.field 0 (.t 1)), none⟩,
  ⟨some 30, .val (.load1 (.t 29)), none⟩,
  ⟨some 31, .val (.mov (.t 3)), none⟩,
  ⟨some 32, .val (.ixS 1 (.t 30) (.t 31)), none⟩,
  ⟨some 33, .val (.load1 (.t 32)), none⟩,
  ⟨some 34, .val (.lenT (.t 33)), none⟩,
  ⟨some 35, .val (.bin .neq false (.t 34) (.k (.int .i64 16))), none⟩]
def ref03_Right_r7 : List AOper := [
  ⟨some 2, .val (.mov (.k (.bool false))), none⟩]
def ref03_Right_r5 : List AOper := [
  ⟨some 27, .val (.mov (.t 3)), none⟩,
  ⟨some 28, .val (.bin .add true (.t 27) (.k (.int .i64 1))), none⟩,
  ⟨some 3, .val (.mov (.t 28)), none⟩]
def ref03_Right_r8 : List AOper := [
  ⟨some 4, .val (.mov (.k (.int .i64 0))), none⟩]
def ref03_Right_r9 : List AOper := [
  ⟨some 36, .val (.mov (.t 4)), none⟩,
  ⟨some 37, .val (.field 1 (.t 1)), none⟩,
  ⟨some 38, .val (.load1 (.t 37)), none⟩,
  ⟨some 39, .val (.lenS (.t 38)), none⟩,
  ⟨some 40, .val (.bin .lss false (.t 36) (.t 39)), none⟩]
def ref03_Right_r11 : List AOper := [
  ⟨some 43, .val (.field 1 (.t 1)), none⟩,
  ⟨some 44, .val (.load1 (.t 43)), none⟩,
  ⟨some 45, .val (.mov (.t 4)), none⟩,
  ⟨some 46, .val (.ixS 2 (.t 44) (.t 45)), none⟩,
  ⟨some 47, .val (.loadA 2 (.t 46)), none⟩,
  ⟨some 5, .alloc 2 [.int .i64 0, .str []], none⟩,
  ⟨none, .stA true 2 (.t 5) (.t 47), none⟩]
def ref03_Right_r12 : List AOper := [
  ⟨some 48, .val (.field 0 (.t 5)), none⟩,
  ⟨some 49, .val (.load1 (.t 48)), none⟩,
  ⟨some 50, .val (.bin .lss false (.t 49) (.k (.int .i64 0))), none⟩,
  ⟨some 51, .val (.mov (.t 50)), none⟩,
  ⟨some 52, .val (.field 0 (.t 5)), some (51, false)⟩,
  ⟨some 53, .val (.load1 (.t 52)), some (51, false)⟩,
  ⟨some 54, .val (.field 0 (.t 1)), some (51, false)⟩,
  ⟨some 55, .val (.load1 (.t 54)), some (51, false)⟩,
  ⟨some 56, .val (.lenS (.t 55)), some (51, false)⟩,
  ⟨some 57, .val (.bin .geq false (.t 53) (.t 56)), some (51, false)⟩,
  ⟨some 58, .val (.por (.t 51) (.t 57)), none⟩,
  ⟨some 59, .val (.mov (.t 58)), none⟩,
  ⟨some 60, .val (.field 1 (.t 5)), some (59, false)⟩,
  ⟨some 61, .val (.load1 (.t 60)), some (59, false)⟩,
  ⟨some 62, .val (.lenT (.t 61)), some (59, false)⟩,
  ⟨some 63, .val (.bin .neq false (.t 62) (.k (.int .i64 16))), some (59, false)⟩,
  ⟨some 64, .val (.por (.t 59) (.t 63)), none⟩]
def ref03_Right_r13 : List AOper := [
  ⟨some 2, .val (.mov (.k (.bool false))), none⟩]
def ref03_Right_r10 : List AOper := [
  ⟨some 41, .val (.mov (.t 4)), none⟩,
  ⟨some 42, .val (.bin .add true (.t 41) (.k (.int .i64 1))), none⟩,
  ⟨some 4, .val (.mov (.t 42)), none⟩]
def ref03_Right_r14 : List AOper := [
  ⟨some 2, .val (.mov (.k (.bool true))), none⟩]
def ref03_Right_c : ACode :=
  (.seq
    (.reg ref03_Right_r0 (some ([1], [1])))
    (.seq
      (.seq
        (.reg ref03_Right_r1 (some ([1, 21], [1])))
        (.cond (.t 21)
          (.seq
            (.reg ref03_Right_r2 (some ([2], [])))
            .ret)
          .skip))
      (.seq
        (.seq
          (.reg ref03_Right_r3 (some ([1, 3], [1])))
          (.block 0
            (.loop
              (.seq
                (.seq
                  (.reg ref03_Right_r4 (some ([1, 3, 26], [1])))
                  (.cond (.t 26)
                    .skip
                    (.exit 0)))
                (.seq
                  (.block 1
                    (.seq
                      (.reg ref03_Right_r6 (some ([1, 3, 35], [1])))
                      (.cond (.t 35)
                        (.seq
                          (.reg ref03_Right_r7 (some ([2], [])))
                          .ret)
                        .skip)))
                  (.reg ref03_Right_r5 (some ([1, 3], [1]))))))))
        (.seq
          (.seq
            (.reg ref03_Right_r8 (some ([1, 4], [1])))
            (.block 2
              (.loop
                (.seq
                  (.seq
                    (.reg ref03_Right_r9 (some ([1, 4, 40], [1])))
                    (.cond (.t 40)
                      .skip
                      (.exit 2)))
                  (.seq
                    (.block 3
                      (.seq
                        (.reg ref03_Right_r11 (some ([1, 4, 5], [1, 5])))
                        (.seq
                          (.reg ref03_Right_r12 (some ([1, 4, 64], [1])))
                          (.cond (.t 64)
                            (.seq
                              (.reg ref03_Right_r13 (some ([2], [])))
                              .ret)
                            .skip))))
                    (.reg ref03_Right_r10 (some ([1, 4], [1]))))))))
          (.seq
            (.reg ref03_Right_r14 (some ([2], [])))
            .ret)))))
def ref03_Right_k (P : Program) (F : Nat → Nat) : Prop := chkFn P (F 32) 1 (ref03_Right_c) [2] = true
def disk_Crash_r0 : List AOper := [
  ⟨some 2, .box 2 (.t 0), none⟩,
  ⟨some 4, .alloc 2 [.nil 1, .nil 2], none⟩]
def disk_Crash_r1 (F : Nat → Nat) : List AOper := [
  ⟨some 11, .val (.loadA 2 (.t 2)), none⟩,
  ⟨some 12, .call (F 40) [(.t 11)], none⟩,
  ⟨some 13, .val (.not (.t 12)), none⟩]
def disk_Crash_r2 : List AOper := [
  ⟨some 14, .val (.loadA 2 (.t 2)), none⟩,
  ⟨none, .stA true 2 (.t 4) (.t 14), none⟩]
def disk_Crash_r3 : List AOper := [
  ⟨some 15, .val (.field 1 (.t 2)), none⟩,
  ⟨some 16, .val (.load1 (.t 15)), none⟩,
  ⟨some 17, .val (.lenS (.t 16)), none⟩,
  ⟨some 18, .mk 1 1 [.bool false] (.t 17), none⟩,
  ⟨some 5, .val (.mov (.t 18)), none⟩]
def disk_Crash_r4 : List AOper := [
  ⟨some 19, .val (.mov (.t 1)), none⟩,
  ⟨some 20, .val (.lenS (.t 19)), none⟩,
  ⟨some 21, .val (.mov (.k (.int .i64 0))), none⟩]
def disk_Crash_r5 : List AOper := [
  ⟨some 22, .val (.bin .lss false (.t 21) (.t 20)), none⟩]
def disk_Crash_r6 : List AOper := [
  ⟨some 23, .val (.ixS 1 (.t 19) (.t 21)), none⟩,
  ⟨some 24, .val (.load1 (.t 23)), none⟩,
  ⟨some 7, .val (.mov (.t 24)), none⟩]
def disk_Crash_r7 : List AOper := [
  ⟨some 25, .val (.mov (.t 7)), none⟩,
  ⟨some 26, .val (.bin .geq false (.t 25) (.k (.int .i64 0))), none⟩,
  ⟨some 27, .val (.mov (.t 26)), none⟩,
  ⟨some 28, .val (.mov (.t 7)), some (27, true)⟩,
  ⟨some 29, .val (.mov (.t 5)), some (27, true)⟩,
  ⟨some 30, .val (.lenS (.t 29)), some (27, true)⟩,
  ⟨some 31, .val (.bin .lss false (.t 28) (.t 30)), some (27, true)⟩,
  ⟨some 32, .val (.pand (.t 27) (.t 31)), none⟩]
def disk_Crash_r8 : List AOper := [
  ⟨some 33, .val (.mov (.t 5)), none⟩,
  ⟨some 34, .val (.mov (.t 7)), none⟩,
  ⟨some 35, .val (.ixS 1 (.t 33) (.t 34)), none⟩,
  ⟨none, .st1 false (.t 35) (.k (.bool true)), none⟩]
def disk_Crash_r9 : List AOper := [
  ⟨some 36, .val (.bin .add true (.t 21) (.k (.int .i64 1))), none⟩,
  ⟨some 21, .val (.mov (.t 36)), none⟩]
def disk_Crash_r10 : List AOper := [
  ⟨some 8, .val (.mov (.k (.nil 2))), none⟩]
def disk_Crash_r11 : List AOper := [
  ⟨some 37, .val (.field 1 (.t 2)), none⟩,
  ⟨some 38, .val (.load1 (.t 37)), none⟩,
  ⟨some 39, .val (.lenS (.t 38)), none⟩,
  ⟨some 40, .val (.mov (.k (.int .i64 0))), none⟩]
def disk_Crash_r12 : List AOper := [
  ⟨some 41, .val (.bin .lss false (.t 40) (.t 39)), none⟩]
def disk_Crash_r13 : List AOper := [
  ⟨some 42, .val (.mov (.t 40)), none⟩,
  ⟨some 43, .val (.ixS 2 (.t 38) (.t 40)), none⟩,
  ⟨some 44, .val (.loadA 2 (.t 43)), none⟩,
  ⟨some 10, .alloc 2 [.int .i64 0, .str []], none⟩,
  ⟨some 9, .val (.mov (.t 42)), none⟩,
  ⟨none, .stA true 2 (.t 10) (.t 44), none⟩]
def disk_Crash_r14 : List AOper := [
  ⟨some 45, .val (.mov (.t 5)), none⟩,
  ⟨some 46, .val (.mov (.t 9)), none⟩,
  ⟨some 47, .val (.ixS 1 (.t 45) (.t 46)), none⟩,
  ⟨some 48, .val (.load1 (.t 47)), none⟩]
def disk_Crash_r15 : List AOper := [
  ⟨some 49, .val (.mov (.t 8)), none⟩,
  ⟨some 50, .val (.loadA 2 (.t 10)), none⟩,
  ⟨some 51, .buildS 2 1 [.int .i64 0, .str []] [(0, (.t 50))], none⟩,
  ⟨some 52, .app 2 24 (.t 49) (.t 51), none⟩,
  ⟨some 8, .val (.mov (.t 52)), none⟩]
def disk_Crash_r16 : List AOper := [
  ⟨some 53, .val (.bin .add true (.t 40) (.k (.int .i64 1))), none⟩,
  ⟨some 40, .val (.mov (.t 53)), none⟩]
def disk_Crash_r17 (F : Nat → Nat) : List AOper := [
  ⟨some 54, .val (.loadA 2 (.t 2)), none⟩,
  ⟨some 55, .val (.mov (.t 8)), none⟩,
  ⟨some 56, .call (F 50) [(.t 54), (.t 55)], none⟩,
  ⟨none, .stA true 2 (.t 4) (.t 56), none⟩]
def disk_Crash_c (F : Nat → Nat) : ACode :=
  (.seq
    (.reg disk_Crash_r0 (some ([1, 2, 4], [2, 4, 18, 51, 52])))
    (.seq
      (.seq
        (.reg (disk_Crash_r1 F) (some ([1, 2, 4, 13], [2, 4, 18, 51, 52])))
        (.cond (.t 13)
          (.seq
            (.reg disk_Crash_r2 (some ([4], [4, 18, 51, 52])))
            .ret)
          .skip))
      (.seq
        (.reg disk_Crash_r3 (some ([1, 2, 4, 5], [2, 4, 18, 51, 52])))
        (.seq
          (.seq
            (.reg disk_Crash_r4 (some ([2, 4, 5, 19, 20, 21], [2, 4, 18, 51, 52])))
            (.block 0
              (.loop
                (.seq
                  (.reg disk_Crash_r5 (some ([2, 4, 5, 19, 20, 21, 22], [2, 4, 18, 51, 52])))
                  (.seq
                    (.cond (.t 22)
                      .skip
                      (.exit 0))
                    (.seq
                      (.block 1
                        (.seq
                          (.reg disk_Crash_r6 (some ([2, 4, 5, 7, 19, 20, 21], [2, 4, 18, 51, 52])))
                          (.seq
                            (.reg disk_Crash_r7 (some ([2, 4, 5, 7, 19, 20, 21, 32], [2, 4, 18, 51, 52])))
                            (.cond (.t 32)
                              (.reg disk_Crash_r8 (some ([2, 4, 5, 19, 20, 21], [2, 4, 18, 51, 52])))
                              .skip))))
                      (.reg disk_Crash_r9 (some ([2, 4, 5, 19, 20, 21], [2, 4, 18, 51, 52])))))))))
          (.seq
            (.reg disk_Crash_r10 (some ([2, 4, 5, 8], [2, 4, 18, 51, 52])))
            (.seq
              (.seq
                (.reg disk_Crash_r11 (some ([2, 4, 5, 8, 38, 39, 40], [2, 4, 18, 51, 52])))
                (.block 2
                  (.loop
                    (.seq
                      (.reg disk_Crash_r12 (some ([2, 4, 5, 8, 38, 39, 40, 41], [2, 4, 18, 51, 52])))
                      (.seq
                        (.cond (.t 41)
                          .skip
                          (.exit 2))
                        (.seq
                          (.block 3
                            (.seq
                              (.reg disk_Crash_r13 (some ([2, 4, 5, 8, 9, 10, 38, 39, 40], [2, 4, 10, 18, 51, 52])))
                              (.seq
                                (.reg disk_Crash_r14 (some ([2, 4, 5, 8, 10, 38, 39, 40, 48], [2, 4, 10, 18, 51, 52])))
                                (.cond (.t 48)
                                  (.reg disk_Crash_r15 (some ([2, 4, 5, 8, 38, 39, 40], [2, 4, 18, 51, 52])))
                                  .skip))))
                          (.reg disk_Crash_r16 (some ([2, 4, 5, 8, 38, 39, 40], [2, 4, 18, 51, 52])))))))))
              (.seq
                (.reg (disk_Crash_r17 F) (some ([4], [4, 18, 51, 52])))
                .ret)))))))
def disk_Crash_k (P : Program) (F : Nat → Nat) : Prop := chkFn P (F 33) 2 (disk_Crash_c F) [.loadA 2 (.t 4)] = true
def disk_Put_r0 : List AOper := [
  ⟨some 2, .box 2 (.t 0), none⟩,
  ⟨some 3, .box 2 (.t 1), none⟩,
  ⟨some 4, .alloc 2 [.nil 1, .nil 2], none⟩,
  ⟨some 5, .val (.mov (.k (.int .i64 0))), none⟩]
def disk_Put_r1 (F : Nat → Nat) : List AOper := [
  ⟨some 6, .val (.loadA 2 (.t 2)), none⟩,
  ⟨some 7, .call (F 40) [(.t 6)], none⟩,
  ⟨some 8, .val (.not (.t 7)), none⟩,
  ⟨some 9, .val (.mov (.t 8)), none⟩,
  ⟨some 10, .val (.loadA 2 (.t 2)), some (9, false)⟩,
  ⟨some 11, .val (.loadA 2 (.t 3)), some (9, false)⟩,
  ⟨some 12, .call (F 51) [(.t 10), (.t 11)], some (9, false)⟩,
  ⟨some 13, .val (.not (.t 12)), some (9, false)⟩,
  ⟨some 14, .val (.por (.t 9) (.t 13)), none⟩]
def disk_Put_r2 : List AOper := [
  ⟨some 15, .val (.loadA 2 (.t 2)), none⟩,
  ⟨none, .stA true 2 (.t 4) (.t 15), none⟩,
  ⟨some 5, .val (.mov (.k (.int .i64 1))), none⟩]
def disk_Put_r3 : List AOper := [
  ⟨some 16, .val (.field 1 (.t 2)), none⟩,
  ⟨some 17, .val (.load1 (.t 16)), none⟩,
  ⟨some 18, .val (.lenS (.t 17)), none⟩,
  ⟨some 19, .val (.bin .geq false (.t 18) (.k (.int .i64 200))), none⟩]
def disk_Put_r4 : List AOper := [
  ⟨some 20, .val (.loadA 2 (.t 2)), none⟩,
  ⟨none, .stA true 2 (.t 4) (.t 20), none⟩,
  ⟨some 5, .val (.mov (.k (.int .i64 7))), none⟩]
def disk_Put_r5 (F : Nat → Nat) : List AOper := [
  ⟨some 21, .val (.field 1 (.t 2)), none⟩,
  ⟨some 22, .val (.load1 (.t 21)), none⟩,
  ⟨some 23, .call (F 52) [(.t 22)], none⟩,
  ⟨some 24, .val (.loadA 2 (.t 3)), none⟩,
  ⟨some 25, .buildS 2 1 [.int .i64 0, .str []] [(0, (.t 24))], none⟩,
  ⟨some 26, .app 2 24 (.t 23) (.t 25), none⟩,
  ⟨some 27, .val (.field 1 (.t 2)), none⟩,
  ⟨none, .st1 true (.t 27) (.t 26), none⟩]
def disk_Put_r6 : List AOper := [
  ⟨some 28, .val (.loadA 2 (.t 2)), none⟩,
  ⟨none, .stA true 2 (.t 4) (.t 28), none⟩,
  ⟨some 5, .val (.mov (.k (.int .i64 0))), none⟩]
def disk_Put_c (F : Nat → Nat) : ACode :=
  (.seq
    (.reg disk_Put_r0 (some ([2, 3, 4], [2, 3, 4, 25, 26, 1023])))
    (.seq
      (.seq
        (.reg (disk_Put_r1 F) (some ([2, 3, 4, 14], [2, 3, 4, 25, 26, 1023])))
        (.cond (.t 14)
          (.seq
            (.reg disk_Put_r2 (some ([4, 5], [4, 25, 26, 1023])))
            .ret)
          .skip))
      (.seq
        (.seq
          (.reg disk_Put_r3 (some ([2, 3, 4, 19], [2, 3, 4, 25, 26, 1023])))
          (.cond (.t 19)
            (.seq
              (.reg disk_Put_r4 (some ([4, 5], [4, 25, 26, 1023])))
              .ret)
            .skip))
        (.seq
          (.regD (disk_Put_r5 F) [(2, 3), (0, 4), (1, 4), (2, 4)] (some ([2, 4], [2, 4, 25, 26, 1023])))
          (.seq
            (.reg disk_Put_r6 (some ([4, 5], [4, 25, 26, 1023])))
            .ret)))))
def disk_Put_k (P : Program) (F : Nat → Nat) : Prop := chkFn P (F 36) 2 (disk_Put_c F) [.loadA 2 (.t 4), 5] = true
def ref03_Same_r0 : List AOper := [
  ⟨some 2, .box 2 (.t 0), none⟩,
  ⟨some 3, .box 2 (.t 1), none⟩,
  ⟨some 4, .val (.mov (.k (.bool false))), none⟩]
def ref03_Same_r1 : List AOper := [
  ⟨some 7, .val (.field 0 (.t 2)), none⟩,
  ⟨some 8, .val (.load1 (.t 7)), none⟩,
  ⟨some 9, .val (.lenS (.t 8)), none⟩,
  ⟨some 10, .val (.field 0 (.t 3)), none⟩,
  ⟨some 11, .val (.load1 (.t 10)), none⟩,
  ⟨some 12, .val (.lenS (.t 11)), none⟩,
  ⟨some 13, .val (.bin .neq false (.t 9) (.t 12)), none⟩,
  ⟨some 14, .val (.mov (.t 13)), none⟩,
  ⟨some 15, .val (.field 1 (.t 2)), some (14, false)⟩,
  ⟨some 16, .val (.load1 (.t 15)), some (14, false)⟩,
  ⟨some 17, .val (.lenS (.t 16)), some (14, false)⟩,
  ⟨some 18, .val (.field 1 (.t 3)), some (14, false)⟩,
  ⟨some 19, .val (.load1 (.t 18)), some (14, false)⟩,
  ⟨some 20, .val (.lenS (.t 19)), some (14, false)⟩,
  ⟨some 21, .val (.bin .neq false (.t 17) (.t 20)), some (14, false)⟩,
  ⟨some 22, .val (.por (.t 14) (.t 21)), none⟩]
def ref03_Same_r2 : List AOper := [
  ⟨some 4, .val (.mov (.k (.bool false))), none⟩]
def ref03_Same_r3 : List AOper := [
  ⟨some 5, .val (.mov (.k (.int .i64 0))), none⟩]
def ref03_Same_r4 : List AOper := [
  ⟨some 23, .val (.mov (.t 5)), none⟩,
  ⟨some 24, .val (.field 0 (.t 2)), none⟩,
  ⟨some 25, .val (.load1 (.t 24)), none⟩,
  ⟨some 26, .val (.lenS (.t 25)), none⟩,
  ⟨some 27, .val (.bin .lss false (.t 23) (.t 26)), none⟩]
def ref03_Same_r6 : List AOper := [
  ⟨some 30, .val (.field 0 (.t 2)), none⟩,
  ⟨some 31, .val (.load1 (.t 30)), none⟩,
  ⟨some 32, .val (.mov (.t 5)), none⟩,
  ⟨some 33, .val (.ixS 1 (.t 31) (.t 32)), none⟩,
  ⟨some 34, .val (.load1 (.t 33)), none⟩,
  ⟨some 35, .val (.field 0 (.t 3)), none⟩,
  ⟨some 36, .val (.load1 (.t 35)), none⟩,
  ⟨some 37, .val (.mov (.t 5)), none⟩,
  ⟨some 38, .val (.ixS 1 (.t 36) (.t 37)), none⟩,
  ⟨some 39, .val (.load1 (.t 38)), none⟩,
  ⟨some 40, .val (.bin .neq false (.t 34) (.t 39)), none⟩]
def ref03_Same_r7 : List AOper := [
  ⟨some 4, .val (.mov (.k (.bool false))), none⟩]
def ref03_Same_r5 : List AOper := [
  ⟨some 28, .val (.mov (.t 5)), none⟩,
  ⟨some 29, .val (.bin .add true (.t 28) (.k (.int .i64 1))), none⟩,
  ⟨some 5, .val (.mov (.t 29)), none⟩]
def ref03_Same_r8 : List AOper := [
  ⟨some 6, .val (.mov (.k (.int .i64 0))), none⟩]
def ref03_Same_r9 : List AOper := [
  ⟨some 41, .val (.mov (.t 6)), none⟩,
  ⟨some 42, .val (.field 1 (.t 2)), none⟩,
  ⟨some 43, .val (.load1 (.t 42)), none⟩,
  ⟨some 44, .val (.lenS (.t 43)), none⟩,
  ⟨some 45, .val (.bin .lss false (.t 41) (.t 44)), none⟩]
def ref03_Same_r11 : List AOper := [
  ⟨some 48, .val (.field 1 (.t 2)), none⟩,
  ⟨some 49, .val (.load1 (.t 48)), none⟩,
  ⟨some 50, .val (.mov (.t 6)), none⟩,
  ⟨some 51, .val (.ixS 2 (.t 49) (.t 50)), none⟩,
  ⟨some 52, .val (.loadA 2 (.t 51)), none⟩,
  ⟨some 53, .val (.field 1 (.t 3)), none⟩,
  ⟨some 54, .val (.load1 (.t 53)), none⟩,
  ⟨some 55, .val (.mov (.t 6)), none⟩,
  ⟨some 56, .val (.ixS 2 (.t 54) (.t 55)), none⟩,
  ⟨some 57, .val (.loadA 2 (.t 56)), none⟩,
  ⟨some 58, .val (.eqA true [0, 2] (.t 52) (.t 57)), none⟩]
def ref03_Same_r12 : List AOper := [
  ⟨some 4, .val (.mov (.k (.bool false))), none⟩]
def ref03_Same_r10 : List AOper := [
  ⟨some 46, .val (.mov (.t 6)), none⟩,
  ⟨some 47, .val (.bin .add true (.t 46) (.k (.int .i64 1))), none⟩,
  ⟨some 6, .val (.mov (.t 47)), none⟩]
def ref03_Same_r13 : List AOper := [
  ⟨some 4, .val (.mov (.k (.bool true))), none⟩]
def ref03_Same_c : ACode :=
  (.seq
    (.reg ref03_Same_r0 (some ([2, 3], [2, 3])))
    (.seq
      (.seq
        (.reg ref03_Same_r1 (some ([2, 3, 22], [2, 3])))
        (.cond (.t 22)
          (.seq
            (.reg ref03_Same_r2 (some ([4], [])))
            .ret)
          .skip))
      (.seq
        (.seq
          (.reg ref03_Same_r3 (some ([2, 3, 5], [2, 3])))
          (.block 0
            (.loop
              (.seq
                (.seq
                  (.reg ref03_Same_r4 (some ([2, 3, 5, 27], [2, 3])))
                  (.cond (.t 27)
                    .skip
                    (.exit 0)))
                (.seq
                  (.block 1
                    (.seq
                      (.regD ref03_Same_r6 [] (some ([2, 3, 5, 40], [2, 3])))
                      (.cond (.t 40)
                        (.seq
                          (.reg ref03_Same_r7 (some ([4], [])))
                          .ret)
                        .skip)))
                  (.reg ref03_Same_r5 (some ([2, 3, 5], [2, 3]))))))))
        (.seq
          (.seq
            (.reg ref03_Same_r8 (some ([2, 3, 6], [2, 3])))
            (.block 2
              (.loop
                (.seq
                  (.seq
                    (.reg ref03_Same_r9 (some ([2, 3, 6, 45], [2, 3])))
                    (.cond (.t 45)
                      .skip
                      (.exit 2)))
                  (.seq
                    (.block 3
                      (.seq
                        (.regD ref03_Same_r11 [] (some ([2, 3, 6, 58], [2, 3])))
                        (.cond (.t 58)
                          (.seq
                            (.reg ref03_Same_r12 (some ([4], [])))
                            .ret)
                          .skip)))
                    (.reg ref03_Same_r10 (some ([2, 3, 6], [2, 3]))))))))
          (.seq
            (.reg ref03_Same_r13 (some ([4], [])))
            .ret)))))
def ref03_Same_k (P : Program) (F : Nat → Nat) : Prop := chkFn P (F 38) 2 (ref03_Same_c) [4] = true
def disk_Right_r0 : List AOper := [
  ⟨some 1, .box 2 (.t 0), none⟩,
  ⟨some 2, .val (.mov (.k (.bool false))), none⟩]
def disk_Right_r1 : List AOper := [
  ⟨some 7, .val (.field 0 (.t 1)), none⟩,
  ⟨some 8, .val (.load1 (.t 7)), none⟩,
  ⟨some 9, .val (.lenS (.t 8)), none⟩,
  ⟨some 10, .val (.bin .lss false (.t 9) (.k (.int .i64 1))), none⟩,
  ⟨some 11, .val (.mov (.t 10)), none⟩,
  ⟨some 12, .val (.field 0 (.t 1)), some (11, false)⟩,
  ⟨some 13, .val (.load1 (.t 12)), some (11, false)⟩,
  ⟨some 14, .val (.lenS (.t 13)), some (11, false)⟩,
  ⟨some 15, .val (.bin .gtr false (.t 14) (.k (.int .i64 64))), some (11, false)⟩,
  ⟨some 16, .val (.por (.t 11) (.t 15)), none⟩,
  ⟨some 17, .val (.mov (.t 16)), none⟩,
  ⟨some 18, .val (.field 1 (.t 1)), some (17, false)⟩,
  ⟨some 19, .val (.load1 (.t 18)), some (17, false)⟩,
  ⟨some 20, .val (.lenS (.t 19)), some (17, false)⟩,
  ⟨some 21, .val (.bin .gtr false (.t 20) (.k (.int .i64 200))), some (17, false)⟩,
  ⟨some 22, .val (.por (.t 17) (.t 21)), none⟩]
def disk_Right_r2 : List AOper := [
  ⟨some 2, .val (.mov (.k (.bool false))), none⟩]
def disk_Right_r3 : List AOper := [
  ⟨some 23, .val (.field 0 (.t 1)), none⟩,
  ⟨some 24, .val (.load1 (.t 23)), none⟩,
  ⟨some 25, .val (.lenS (.t 24)), none⟩,
  ⟨some 26, .val (.mov (.k (.int .i64 0))), none⟩]
def disk_Right_r4 : List AOper := [
  ⟨some 27, .val (.bin .lss false (.t 26) (.t 25)), none⟩]
def disk_Right_r5 : List AOper := [
  ⟨some 28, .val (.ixS 1 (.t 24) (.t 26)), none⟩,
  ⟨some 29, .val (.load1 (.t 28)), none⟩,
  ⟨some 4, .val (.mov (.t 29)), none⟩]
def disk_Right_r6 : List AOper := [
  ⟨some 30, .val (.mov (.t 4)), none⟩,
  ⟨some 31, .val (.lenT (.t 30)), none⟩,
  ⟨some 32, .val (.bin .neq false (.t 31) (.k (.int .i64 16))), none⟩]
def disk_Right_r7 : List AOper := [
  ⟨some 2, .val (.mov (.k (.bool false))), none⟩]
def disk_Right_r8 : List AOper := [
  ⟨some 33, .val (.bin .add true (.t 26) (.k (.int .i64 1))), none⟩,
  ⟨some 26, .val (.mov (.t 33)), none⟩]
def disk_Right_r9 : List AOper := [
  ⟨some 34, .val (.field 1 (.t 1)), none⟩,
  ⟨some 35, .val (.load1 (.t 34)), none⟩,
  ⟨some 36, .val (.lenS (.t 35)), none⟩,
  ⟨some 37, .val (.mov (.k (.int .i64 0))), none⟩]
def disk_Right_r10 : List AOper := [
  ⟨some 38, .val (.bin .lss false (.t 37) (.t 36)), none⟩]
def disk_Right_r11 : List AOper := [
  ⟨some 39, .val (.ixS 2 (.t 35) (.t 37)), none⟩,
  ⟨some 40, .val (.loadA 2 (.t 39)), none⟩,
  ⟨some 6, .alloc 2 [.int .i64 0, .str []], none⟩,
  ⟨none, .stA true 2 (.t 6) (.t 40), none⟩]
def disk_Right_r12 (F : Nat → Nat) : List AOper := [
  ⟨some 41, .val (.loadA 2 (.t 1)), none⟩,
  ⟨some 42, .val (.loadA 2 (.t 6)), none⟩,
  ⟨some 43, .call (F 51) [(.t 41), (.t 42)], none⟩,
  ⟨some 44, .val (.not (.t 43)), none⟩]
def disk_Right_r13 : List AOper := [
  ⟨some 2, .val (.mov (.k (.bool false))), none⟩]
def disk_Right_r14 : List AOper := [
  ⟨some 45, .val (.bin .add true (.t 37) (.k (.int .i64 1))), none⟩,
  ⟨some 37, .val (.mov (.t 45)), none⟩]
def disk_Right_r15 : List AOper := [
  ⟨some 2, .val (.mov (.k (.bool true))), none⟩]
def disk_Right_c (F : Nat → Nat) : ACode :=
  (.seq
    (.reg disk_Right_r0 (some ([1], [1])))
    (.seq
      (.seq
        (.reg disk_Right_r1 (some ([1, 22], [1])))
        (.cond (.t 22)
          (.seq
            (.reg disk_Right_r2 (some ([2], [])))
            .ret)
          .skip))
      (.seq
        (.seq
          (.reg disk_Right_r3 (some ([1, 24, 25, 26], [1])))
          (.block 0
            (.loop
              (.seq
                (.reg disk_Right_r4 (some ([1, 24, 25, 26, 27], [1])))
                (.seq
                  (.cond (.t 27)
                    .skip
                    (.exit 0))
                  (.seq
                    (.block 1
                      (.seq
                        (.reg disk_Right_r5 (some ([1, 4, 24, 25, 26], [1])))
                        (.seq
                          (.reg disk_Right_r6 (some ([1, 24, 25, 26, 32], [1])))
                          (.cond (.t 32)
                            (.seq
                              (.reg disk_Right_r7 (some ([2], [])))
                              .ret)
                            .skip))))
                    (.reg disk_Right_r8 (some ([1, 24, 25, 26], [1])))))))))
        (.seq
          (.seq
            (.reg disk_Right_r9 (some ([1, 35, 36, 37], [1])))
            (.block 2
              (.loop
                (.seq
                  (.reg disk_Right_r10 (some ([1, 35, 36, 37, 38], [1])))
                  (.seq
                    (.cond (.t 38)
                      .skip
                      (.exit 2))
                    (.seq
                      (.block 3
                        (.seq
                          (.reg disk_Right_r11 (some ([1, 6, 35, 36, 37], [1, 6])))
                          (.seq
                            (.reg (disk_Right_r12 F) (some ([1, 35, 36, 37, 44], [1])))
                            (.cond (.t 44)
                              (.seq
                                (.reg disk_Right_r13 (some ([2], [])))
                                .ret)
                              .skip))))
                      (.reg disk_Right_r14 (some ([1, 35, 36, 37], [1])))))))))
          (.seq
            (.reg disk_Right_r15 (some ([2], [])))
            .ret)))))
def disk_Right_k (P : Program) (F : Nat → Nat) : Prop := chkFn P (F 40) 1 (disk_Right_c F) [2] = true
def disk_Sync_r0 : List AOper := [
  ⟨some 1, .box 2 (.t 0), none⟩,
  ⟨some 2, .alloc 2 [.nil 1, .nil 2], none⟩]
def disk_Sync_r1 (F : Nat → Nat) : List AOper := [
  ⟨some 3, .val (.loadA 2 (.t 1)), none⟩,
  ⟨some 4, .call (F 40) [(.t 3)], none⟩,
  ⟨some 5, .val (.not (.t 4)), none⟩]
def disk_Sync_r2 : List AOper := [
  ⟨some 6, .val (.loadA 2 (.t 1)), none⟩,
  ⟨none, .stA true 2 (.t 2) (.t 6), none⟩]
def disk_Sync_r3 (F : Nat → Nat) : List AOper := [
  ⟨some 7, .val (.loadA 2 (.t 1)), none⟩,
  ⟨some 8, .val (.field 1 (.t 1)), none⟩,
  ⟨some 9, .val (.load1 (.t 8)), none⟩,
  ⟨some 10, .call (F 50) [(.t 7), (.t 9)], none⟩,
  ⟨none, .stA true 2 (.t 2) (.t 10), none⟩]
def disk_Sync_c (F : Nat → Nat) : ACode :=
  (.seq
    (.reg disk_Sync_r0 (some ([1, 2], [1, 2])))
    (.seq
      (.seq
        (.reg (disk_Sync_r1 F) (some ([1, 2, 5], [1, 2])))
        (.cond (.t 5)
          (.seq
            (.reg disk_Sync_r2 (some ([2], [2])))
            .ret)
          .skip))
      (.seq
        (.reg (disk_Sync_r3 F) (some ([2], [2])))
        .ret)))
def disk_Sync_k (P : Program) (F : Nat → Nat) : Prop := chkFn P (F 41) 1 (disk_Sync_c F) [.loadA 2 (.t 2)] = true
def ref03_Sync_r0 : List AOper := [
  ⟨some 1, .box 2 (.t 0), none⟩,
  ⟨some 2, .alloc 2 [.nil 1, .nil 2], none⟩]
def ref03_Sync_r1 : List AOper := [
  ⟨some 3, .alloc 2 [.nil 1, .nil 2], none⟩]
def ref03_Sync_r2 : List AOper := [
  ⟨some 4, .val (.mov (.k (.int .i64 0))), none⟩]
def ref03_Sync_r3 : List AOper := [
  ⟨some 5, .val (.mov (.t 4)), none⟩,
  ⟨some 6, .val (.field 0 (.t 1)), none⟩,
  ⟨some 7, .val (.load1 (.t 6)), none⟩,
  ⟨some 8, .val (.lenS (.t 7)), none⟩,
  ⟨some 9, .val (.bin .lss false (.t 5) (.t 8)), none⟩]
def ref03_Sync_r5 (F : Nat → Nat) : List AOper := [
  ⟨some 12, .val (.field 0 (.t 3)), none⟩,
  ⟨some 13, .val (.load1 (.t 12)), none⟩,
  ⟨some 14, .val (.loadA 2 (.t 1)), none⟩,
  ⟨some 15, .val (.mov (.t 4)), none⟩,
  ⟨some 16, .call (F 44) [(.t 14), (.t 15)], none⟩,
  ⟨some 17, .buildS 1 1 [.str []] [(0, (.t 16))], none⟩,
  ⟨some 18, .app 1 16 (.t 13) (.t 17), none⟩,
  ⟨some 19, .val (.field 0 (.t 3)), none⟩,
  ⟨none, .st1 true (.t 19) (.t 18), none⟩]
def ref03_Sync_r4 : List AOper := [
  ⟨some 10, .val (.mov (.t 4)), none⟩,
  ⟨some 11, .val (.bin .add true (.t 10) (.k (.int .i64 1))), none⟩,
  ⟨some 4, .val (.mov (.t 11)), none⟩]
def ref03_Sync_r6 : List AOper := [
  ⟨some 20, .val (.loadA 2 (.t 3)), none⟩,
  ⟨none, .stA true 2 (.t 2) (.t 20), none⟩]
def ref03_Sync_c (F : Nat → Nat) : ACode :=
  (.seq
    (.reg ref03_Sync_r0 (some ([1, 2], [1, 2, 17, 18])))
    (.seq
      (.reg ref03_Sync_r1 (some ([1, 2, 3], [1, 2, 3, 17, 18])))
      (.seq
        (.seq
          (.reg ref03_Sync_r2 (some ([1, 2, 3, 4], [1, 2, 3, 17, 18])))
          (.block 0
            (.loop
              (.seq
                (.seq
                  (.reg ref03_Sync_r3 (some ([1, 2, 3, 4, 9], [1, 2, 3, 17, 18])))
                  (.cond (.t 9)
                    .skip
                    (.exit 0)))
                (.seq
                  (.block 1
                    (.regD (ref03_Sync_r5 F) [(0, 4), (1, 4), (0, 5), (1, 5)] (some ([1, 2, 3, 4], [1, 2, 3, 17, 18]))))
                  (.reg ref03_Sync_r4 (some ([1, 2, 3, 4], [1, 2, 3, 17, 18]))))))))
        (.seq
          (.reg ref03_Sync_r6 (some ([2], [2, 17, 18])))
          .ret))))
def ref03_Sync_k (P : Program) (F : Nat → Nat) : Prop := chkFn P (F 42) 1 (ref03_Sync_c F) [.loadA 2 (.t 2)] = true
def ref03_Crash_r0 : List AOper := [
  ⟨some 2, .box 2 (.t 0), none⟩,
  ⟨some 4, .alloc 2 [.nil 1, .nil 2], none⟩]
def ref03_Crash_r1 : List AOper := [
  ⟨some 5, .alloc 2 [.nil 1, .nil 2], none⟩]
def ref03_Crash_r2 : List AOper := [
  ⟨some 6, .val (.mov (.k (.int .i64 0))), none⟩]
def ref03_Crash_r3 : List AOper := [
  ⟨some 9, .val (.mov (.t 6)), none⟩,
  ⟨some 10, .val (.field 0 (.t 2)), none⟩,
  ⟨some 11, .val (.load1 (.t 10)), none⟩,
  ⟨some 12, .val (.lenS (.t 11)), none⟩,
  ⟨some 13, .val (.bin .lss false (.t 9) (.t 12)), none⟩]
def ref03_Crash_r5 : List AOper := [
  ⟨some 16, .val (.field 0 (.t 2)), none⟩,
  ⟨some 17, .val (.load1 (.t 16)), none⟩,
  ⟨some 18, .val (.mov (.t 6)), none⟩,
  ⟨some 19, .val (.ixS 1 (.t 17) (.t 18)), none⟩,
  ⟨some 20, .val (.load1 (.t 19)), none⟩,
  ⟨some 7, .val (.mov (.t 20)), none⟩]
def ref03_Crash_r6 : List AOper := [
  ⟨some 8, .val (.mov (.k (.int .i64 0))), none⟩]
def ref03_Crash_r7 : List AOper := [
  ⟨some 21, .val (.mov (.t 8)), none⟩,
  ⟨some 22, .val (.field 1 (.t 2)), none⟩,
  ⟨some 23, .val (.load1 (.t 22)), none⟩,
  ⟨some 24, .val (.lenS (.t 23)), none⟩,
  ⟨some 25, .val (.bin .lss false (.t 21) (.t 24)), none⟩]
def ref03_Crash_r9 (F : Nat → Nat) : List AOper := [
  ⟨some 28, .val (.field 1 (.t 2)), none⟩,
  ⟨some 29, .val (.load1 (.t 28)), none⟩,
  ⟨some 30, .val (.mov (.t 8)), none⟩,
  ⟨some 31, .val (.ixS 2 (.t 29) (.t 30)), none⟩,
  ⟨some 32, .val (.field 0 (.t 31)), none⟩,
  ⟨some 33, .val (.load1 (.t 32)), none⟩,
  ⟨some 34, .val (.mov (.t 6)), none⟩,
  ⟨some 35, .val (.bin .eql false (.t 33) (.t 34)), none⟩,
  ⟨some 36, .val (.mov (.t 35)), none⟩,
  ⟨some 37, .val (.mov (.t 1)), some (36, true)⟩,
  ⟨some 38, .val (.mov (.t 8)), some (36, true)⟩,
  ⟨some 39, .call (F 54) [(.t 37), (.t 38)], some (36, true)⟩,
  ⟨some 40, .val (.pand (.t 36) (.t 39)), none⟩]
def ref03_Crash_r10 : List AOper := [
  ⟨some 41, .val (.field 1 (.t 2)), none⟩,
  ⟨some 42, .val (.load1 (.t 41)), none⟩,
  ⟨some 43, .val (.mov (.t 8)), none⟩,
  ⟨some 44, .val (.ixS 2 (.t 42) (.t 43)), none⟩,
  ⟨some 45, .val (.field 1 (.t 44)), none⟩,
  ⟨some 46, .val (.load1 (.t 45)), none⟩,
  ⟨some 7, .val (.mov (.t 46)), none⟩]
def ref03_Crash_r8 : List AOper := [
  ⟨some 26, .val (.mov (.t 8)), none⟩,
  ⟨some 27, .val (.bin .add true (.t 26) (.k (.int .i64 1))), none⟩,
  ⟨some 8, .val (.mov (.t 27)), none⟩]
def ref03_Crash_r11 : List AOper := [
  ⟨some 47, .val (.field 0 (.t 5)), none⟩,
  ⟨some 48, .val (.load1 (.t 47)), none⟩,
  ⟨some 49, .val (.mov (.t 7)), none⟩,
  ⟨some 50, .buildS 1 1 [.str []] [(0, (.t 49))], none⟩,
  ⟨some 51, .app 1 16 (.t 48) (.t 50), none⟩,
  ⟨some 52, .val (.field 0 (.t 5)), none⟩,
  ⟨none, .st1 true (.t 52) (.t 51), none⟩]
def ref03_Crash_r4 : List AOper := [
  ⟨some 14, .val (.mov (.t 6)), none⟩,
  ⟨some 15, .val (.bin .add true (.t 14) (.k (.int .i64 1))), none⟩,
  ⟨some 6, .val (.mov (.t 15)), none⟩]
def ref03_Crash_r12 : List AOper := [
  ⟨some 53, .val (.loadA 2 (.t 5)), none⟩,
  ⟨none, .stA true 2 (.t 4) (.t 53), none⟩]
def ref03_Crash_c (F : Nat → Nat) : ACode :=
  (.seq
    (.reg ref03_Crash_r0 (some ([1, 2, 4], [2, 4, 50, 51])))
    (.seq
      (.reg ref03_Crash_r1 (some ([1, 2, 4, 5], [2, 4, 5, 50, 51])))
      (.seq
        (.seq
          (.reg ref03_Crash_r2 (some ([1, 2, 4, 5, 6], [2, 4, 5, 50, 51])))
          (.block 0
            (.loop
              (.seq
                (.seq
                  (.reg ref03_Crash_r3 (some ([1, 2, 4, 5, 6, 13], [2, 4, 5, 50, 51])))
                  (.cond (.t 13)
                    .skip
                    (.exit 0)))
                (.seq
                  (.block 1
                    (.seq
                      (.reg ref03_Crash_r5 (some ([1, 2, 4, 5, 6, 7], [2, 4, 5, 50, 51])))
                      (.seq
                        (.seq
                          (.reg ref03_Crash_r6 (some ([1, 2, 4, 5, 6, 7, 8], [2, 4, 5, 50, 51])))
                          (.block 2
                            (.loop
                              (.seq
                                (.seq
                                  (.reg ref03_Crash_r7 (some ([1, 2, 4, 5, 6, 7, 8, 25], [2, 4, 5, 50, 51])))
                                  (.cond (.t 25)
                                    .skip
                                    (.exit 2)))
                                (.seq
                                  (.block 3
                                    (.seq
                                      (.reg (ref03_Crash_r9 F) (some ([1, 2, 4, 5, 6, 7, 8, 40], [2, 4, 5, 50, 51])))
                                      (.cond (.t 40)
                                        (.reg ref03_Crash_r10 (some ([1, 2, 4, 5, 6, 7, 8], [2, 4, 5, 50, 51])))
                                        .skip)))
                                  (.reg ref03_Crash_r8 (some ([1, 2, 4, 5, 6, 7, 8], [2, 4, 5, 50, 51]))))))))
                        (.reg ref03_Crash_r11 (some ([1, 2, 4, 5, 6], [2, 4, 5, 50, 51]))))))
                  (.reg ref03_Crash_r4 (some ([1, 2, 4, 5, 6], [2, 4, 5, 50, 51]))))))))
        (.seq
          (.reg ref03_Crash_r12 (some ([4], [4, 50, 51])))
          .ret))))
def ref03_Crash_k (P : Program) (F : Nat → Nat) : Prop := chkFn P (F 43) 2 (ref03_Crash_c F) [.loadA 2 (.t 4)] = true
def ref03_Read_r0 : List AOper := [
  ⟨some 2, .box 2 (.t 0), none⟩,
  ⟨some 4, .val (.mov (.k (.str []))), none⟩]
def ref03_Read_r1 : List AOper := [
  ⟨some 6, .val (.field 1 (.t 2)), none⟩,
  ⟨some 7, .val (.load1 (.t 6)), none⟩,
  ⟨some 8, .val (.lenS (.t 7)), none⟩,
  ⟨some 9, .val (.bin .sub true (.t 8) (.k (.int .i64 1))), none⟩,
  ⟨some 5, .val (.mov (.t 9)), none⟩]
def ref03_Read_r2 : List AOper := [
  ⟨some 10, .val (.mov (.t 5)), none⟩,
  ⟨some 11, .val (.bin .geq false (.t 10) (.k (.int .i64 0))), none⟩]
def ref03_Read_r4 : List AOper := [
  ⟨some 14, .val (.field 1 (.t 2)), none⟩,
  ⟨some 15, .val (.load1 (.t 14)), none⟩,
  ⟨some 16, .val (.mov (.t 5)), none⟩,
  ⟨some 17, .val (.ixS 2 (.t 15) (.t 16)), none⟩,
  ⟨some 18, .val (.field 0 (.t 17)), none⟩,
  ⟨some 19, .val (.load1 (.t 18)), none⟩,
  ⟨some 20, .val (.mov (.t 1)), none⟩,
  ⟨some 21, .val (.bin .eql false (.t 19) (.t 20)), none⟩]
def ref03_Read_r5 : List AOper := [
  ⟨some 22, .val (.field 1 (.t 2)), none⟩,
  ⟨some 23, .val (.load1 (.t 22)), none⟩,
  ⟨some 24, .val (.mov (.t 5)), none⟩,
  ⟨some 25, .val (.ixS 2 (.t 23) (.t 24)), none⟩,
  ⟨some 26, .val (.field 1 (.t 25)), none⟩,
  ⟨some 27, .val (.load1 (.t 26)), none⟩,
  ⟨some 4, .val (.mov (.t 27)), none⟩]
def ref03_Read_r3 : List AOper := [
  ⟨some 12, .val (.mov (.t 5)), none⟩,
  ⟨some 13, .val (.bin .sub true (.t 12) (.k (.int .i64 1))), none⟩,
  ⟨some 5, .val (.mov (.t 13)), none⟩]
def ref03_Read_r6 : List AOper := [
  ⟨some 28, .val (.field 0 (.t 2)), none⟩,
  ⟨some 29, .val (.load1 (.t 28)), none⟩,
  ⟨some 30, .val (.mov (.t 1)), none⟩,
  ⟨some 31, .val (.ixS 1 (.t 29) (.t 30)), none⟩,
  ⟨some 32, .val (.load1 (.t 31)), none⟩,
  ⟨some 4, .val (.mov (.t 32)), none⟩]
def ref03_Read_c : ACode :=
  (.seq
    (.reg ref03_Read_r0 (some ([1, 2], [2])))
    (.seq
      (.seq
        (.reg ref03_Read_r1 (some ([1, 2, 5], [2])))
        (.block 0
          (.loop
            (.seq
              (.seq
                (.reg ref03_Read_r2 (some ([1, 2, 5, 11], [2])))
                (.cond (.t 11)
                  .skip
                  (.exit 0)))
              (.seq
                (.block 1
                  (.seq
                    (.reg ref03_Read_r4 (some ([1, 2, 5, 21], [2])))
                    (.cond (.t 21)
                      (.seq
                        (.reg ref03_Read_r5 (some ([4], [])))
                        .ret)
                      .skip)))
                (.reg ref03_Read_r3 (some ([1, 2, 5], [2]))))))))
      (.seq
        (.reg ref03_Read_r6 (some ([4], [])))
        .ret)))
def ref03_Read_k (P : Program) (F : Nat → Nat) : Prop := chkFn P (F 44) 2 (ref03_Read_c) [4] = true
def disk_written_r0 : List AOper := [
  ⟨some 2, .box 2 (.t 0), none⟩,
  ⟨some 4, .alloc 2 [.nil 1, .nil 2], none⟩]
def disk_written_r1 (F : Nat → Nat) : List AOper := [
  ⟨some 8, .val (.field 0 (.t 2)), none⟩,
  ⟨some 9, .val (.load1 (.t 8)), none⟩,
  ⟨some 10, .call (F 55) [(.t 9)], none⟩,
  ⟨some 5, .val (.mov (.t 10)), none⟩]
def disk_written_r2 : List AOper := [
  ⟨some 11, .val (.mov (.t 1)), none⟩,
  ⟨some 12, .val (.lenS (.t 11)), none⟩,
  ⟨some 13, .val (.mov (.k (.int .i64 0))), none⟩]
def disk_written_r3 : List AOper := [
  ⟨some 14, .val (.bin .lss false (.t 13) (.t 12)), none⟩]
def disk_written_r4 : List AOper := [
  ⟨some 15, .val (.ixS 2 (.t 11) (.t 13)), none⟩,
  ⟨some 16, .val (.loadA 2 (.t 15)), none⟩,
  ⟨some 7, .alloc 2 [.int .i64 0, .str []], none⟩,
  ⟨none, .stA true 2 (.t 7) (.t 16), none⟩]
def disk_written_r5 : List AOper := [
  ⟨some 17, .val (.mov (.t 5)), none⟩,
  ⟨some 18, .val (.field 0 (.t 7)), none⟩,
  ⟨some 19, .val (.load1 (.t 18)), none⟩,
  ⟨some 20, .val (.field 1 (.t 7)), none⟩,
  ⟨some 21, .val (.load1 (.t 20)), none⟩,
  ⟨some 22, .val (.ixS 1 (.t 17) (.t 19)), none⟩,
  ⟨none, .st1 false (.t 22) (.t 21), none⟩]
def disk_written_r6 : List AOper := [
  ⟨some 23, .val (.bin .add true (.t 13) (.k (.int .i64 1))), none⟩,
  ⟨some 13, .val (.mov (.t 23)), none⟩]
def disk_written_r7 : List AOper := [
  ⟨some 24, .val (.mov (.t 5)), none⟩,
  ⟨some 25, .val (.build 2 [.nil 1, .nil 2] [(0, 1, (.t 24))]), none⟩,
  ⟨none, .stA true 2 (.t 4) (.t 25), none⟩]
def disk_written_c (F : Nat → Nat) : ACode :=
  (.seq
    (.reg disk_written_r0 (some ([1, 2, 4], [2, 4, 1010])))
    (.seq
      (.reg (disk_written_r1 F) (some ([1, 4, 5], [4, 1010])))
      (.seq
        (.seq
          (.reg disk_written_r2 (some ([4, 5, 11, 12, 13], [4, 1010])))
          (.block 0
            (.loop
              (.seq
                (.reg disk_written_r3 (some ([4, 5, 11, 12, 13, 14], [4, 1010])))
                (.seq
                  (.cond (.t 14)
                    .skip
                    (.exit 0))
                  (.seq
                    (.block 1
                      (.seq
                        (.reg disk_written_r4 (some ([4, 5, 7, 11, 12, 13], [4, 7, 1010])))
                        (.reg disk_written_r5 (some ([4, 5, 11, 12, 13], [4, 1010])))))
                    (.reg disk_written_r6 (some ([4, 5, 11, 12, 13], [4, 1010])))))))))
        (.seq
          (.reg disk_written_r7 (some ([4], [4, 1010])))
          .ret))))
def disk_written_k (P : Program) (F : Nat → Nat) : Prop := chkFn P (F 50) 2 (disk_written_c F) [.loadA 2 (.t 4)] = true
def disk_fits_r0 : List AOper := [
  ⟨some 2, .box 2 (.t 0), none⟩,
  ⟨some 3, .box 2 (.t 1), none⟩,
  ⟨some 4, .val (.mov (.k (.bool false))), none⟩]
def disk_fits_r1 : List AOper := [
  ⟨some 5, .val (.field 0 (.t 3)), none⟩,
  ⟨some 6, .val (.load1 (.t 5)), none⟩,
  ⟨some 7, .val (.bin .geq false (.t 6) (.k (.int .i64 0))), none⟩,
  ⟨some 8, .val (.mov (.t 7)), none⟩,
  ⟨some 9, .val (.field 0 (.t 3)), some (8, true)⟩,
  ⟨some 10, .val (.load1 (.t 9)), some (8, true)⟩,
  ⟨some 11, .val (.field 0 (.t 2)), some (8, true)⟩,
  ⟨some 12, .val (.load1 (.t 11)), some (8, true)⟩,
  ⟨some 13, .val (.lenS (.t 12)), some (8, true)⟩,
  ⟨some 14, .val (.bin .lss false (.t 10) (.t 13)), some (8, true)⟩,
  ⟨some 15, .val (.pand (.t 8) (.t 14)), none⟩,
  ⟨some 16, .val (.mov (.t 15)), none⟩,
  ⟨some 17, .val (.field 1 (.t 3)), some (16, true)⟩,
  ⟨some 18, .val (.load1 (.t 17)), some (16, true)⟩,
  ⟨some 19, .val (.lenT (.t 18)), some (16, true)⟩,
  ⟨some 20, .val (.bin .eql false (.t 19) (.k (.int .i64 16))), some (16, true)⟩,
  ⟨some 21, .val (.pand (.t 16) (.t 20)), none⟩,
  ⟨some 4, .val (.mov (.t 21)), none⟩]
def disk_fits_c : ACode :=
  (.seq
    (.reg disk_fits_r0 (some ([2, 3], [2, 3])))
    (.seq
      (.reg disk_fits_r1 (some ([4], [])))
      .ret))
def disk_fits_k (P : Program) (F : Nat → Nat) : Prop := chkFn P (F 51) 2 (disk_fits_c) [4] = true
def sl_Clone_api_Write_r0 : List AOper := [
  ⟨some 2, .val (.mov (.k (.nil 2))), none⟩]
def sl_Clone_api_Write_r1 : List AOper := [
  ⟨some 3, .val (.mov (.t 0)), none⟩,
  ⟨some 4, .val (.nilS (.t 3)), none⟩]
def sl_Clone_api_Write_r2 : List AOper := [
  ⟨some 2, .val (.mov (.k (.nil 2))), none⟩]
def sl_Clone_api_Write_r3 : List AOper := [
  ⟨some 5, .buildS 2 0 [.int .i64 0, .str []] [], none⟩,
  ⟨some 6, .val (.mov (.t 0)), none⟩,
  ⟨some 7, .app 2 24 (.t 5) (.t 6), none⟩,
  ⟨some 2, .val (.mov (.t 7)), none⟩]
def sl_Clone_api_Write_c : ACode :=
  (.seq
    (.reg sl_Clone_api_Write_r0 (some ([0], [5, 7])))
    (.seq
      (.seq
        (.reg sl_Clone_api_Write_r1 (some ([0, 4], [5, 7])))
        (.cond (.t 4)
          (.seq
            (.reg sl_Clone_api_Write_r2 (some ([2], [5, 7])))
            .ret)
          .skip))
      (.seq
        (.reg sl_Clone_api_Write_r3 (some ([2], [5, 7])))
        .ret)))
def sl_Clone_api_Write_k (P : Program) (F : Nat → Nat) : Prop := chkFn P (F 52) 1 (sl_Clone_api_Write_c) [2] = true
def ref03_in_r0 : List AOper := [
  ⟨some 4, .val (.mov (.k (.bool false))), none⟩]
def ref03_in_r1 : List AOper := [
  ⟨some 5, .val (.mov (.k (.int .i64 0))), none⟩]
def ref03_in_r2 : List AOper := [
  ⟨some 6, .val (.mov (.t 5)), none⟩,
  ⟨some 7, .val (.mov (.t 0)), none⟩,
  ⟨some 8, .val (.lenS (.t 7)), none⟩,
  ⟨some 9, .val (.bin .lss false (.t 6) (.t 8)), none⟩]
def ref03_in_r4 : List AOper := [
  ⟨some 12, .val (.mov (.t 0)), none⟩,
  ⟨some 13, .val (.mov (.t 5)), none⟩,
  ⟨some 14, .val (.ixS 1 (.t 12) (.t 13)), none⟩,
  ⟨some 15, .val (.load1 (.t 14)), none⟩,
  ⟨some 16, .val (.mov (.t 1)), none⟩,
  ⟨some 17, .val (.bin .eql false (.t 15) (.t 16)), none⟩]
def ref03_in_r5 : List AOper := [
  ⟨some 4, .val (.mov (.k (.bool true))), none⟩]
def ref03_in_r3 : List AOper := [
  ⟨some 10, .val (.mov (.t 5)), none⟩,
  ⟨some 11, .val (.bin .add true (.t 10) (.k (.int .i64 1))), none⟩,
  ⟨some 5, .val (.mov (.t 11)), none⟩]
def ref03_in_r6 : List AOper := [
  ⟨some 4, .val (.mov (.k (.bool false))), none⟩]
def ref03_in_c : ACode :=
  (.seq
    (.reg ref03_in_r0 (some ([0, 1], [])))
    (.seq
      (.seq
        (.reg ref03_in_r1 (some ([0, 1, 5], [])))
        (.block 0
          (.loop
            (.seq
              (.seq
                (.reg ref03_in_r2 (some ([0, 1, 5, 9], [])))
                (.cond (.t 9)
                  .skip
                  (.exit 0)))
              (.seq
                (.block 1
                  (.seq
                    (.reg ref03_in_r4 (some ([0, 1, 5, 17], [])))
                    (.cond (.t 17)
                      (.seq
                        (.reg ref03_in_r5 (some ([4], [])))
                        .ret)
                      .skip)))
                (.reg ref03_in_r3 (some ([0, 1, 5], []))))))))
      (.seq
        (.reg ref03_in_r6 (some ([4], [])))
        .ret)))
def ref03_in_k (P : Program) (F : Nat → Nat) : Prop := chkFn P (F 54) 2 (ref03_in_c) [4] = true
def sl_Clone_string_r0 : List AOper := [
  ⟨some 2, .val (.mov (.k (.nil 1))), none⟩]
def sl_Clone_string_r1 : List AOper := [
  ⟨some 3, .val (.mov (.t 0)), none⟩,
  ⟨some 4, .val (.nilS (.t 3)), none⟩]
def sl_Clone_string_r2 : List AOper := [
  ⟨some 2, .val (.mov (.k (.nil 1))), none⟩]
def sl_Clone_string_r3 : List AOper := [
  ⟨some 5, .buildS 1 0 [.str []] [], none⟩,
  ⟨some 6, .val (.mov (.t 0)), none⟩,
  ⟨some 7, .app 1 16 (.t 5) (.t 6), none⟩,
  ⟨some 2, .val (.mov (.t 7)), none⟩]
def sl_Clone_string_c : ACode :=
  (.seq
    (.reg sl_Clone_string_r0 (some ([0], [5, 7])))
    (.seq
      (.seq
        (.reg sl_Clone_string_r1 (some ([0, 4], [5, 7])))
        (.cond (.t 4)
          (.seq
            (.reg sl_Clone_string_r2 (some ([2], [5, 7])))
            .ret)
          .skip))
      (.seq
        (.reg sl_Clone_string_r3 (some ([2], [5, 7])))
        .ret)))
def sl_Clone_string_k (P : Program) (F : Nat → Nat) : Prop := chkFn P (F 55) 1 (sl_Clone_string_c) [2] = true
end Lk.C
