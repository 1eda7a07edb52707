/-
  CCb: what these chapters need.
-/
import Derived.Test.YtaijfhomokkpeaaLkC
set_option linter.unusedSimpArgs false
set_option linter.unusedVariables false
namespace Lk.C
open Go Lk
def law04_ref_r0 : List AOper := [
  ⟨some 1, .box 4 (.t 0), none⟩,
  ⟨some 2, .alloc 4 [.nil 1, .nil 2, .int .i64 0, .nil 4], none⟩,
  ⟨some 3, .val (.mov (.k (.bool false))), none⟩]
def law04_ref_r1 : List AOper := [
  ⟨some 7, .val (.field 0 (.t 1)), none⟩,
  ⟨some 8, .val (.loadA 2 (.t 7)), none⟩,
  ⟨some 9, .val (.field 2 (.t 1)), none⟩,
  ⟨some 10, .val (.load1 (.t 9)), none⟩,
  ⟨some 11, .val (.build 4 [.nil 1, .nil 2, .int .i64 0, .nil 4] [(0, 2, (.t 8)), (2, 1, (.t 10))]), none⟩,
  ⟨some 4, .alloc 4 [.nil 1, .nil 2, .int .i64 0, .nil 4], none⟩,
  ⟨none, .stA true 4 (.t 4) (.t 11), none⟩]
def law04_ref_r2 (F : Nat → Nat) : List AOper := [
  ⟨some 12, .val (.field 0 (.t 1)), none⟩,
  ⟨some 13, .val (.loadA 2 (.t 12)), none⟩,
  ⟨some 14, .call (F 31) [(.t 13)], none⟩,
  ⟨some 15, .val (.not (.t 14)), none⟩,
  ⟨some 16, .val (.mov (.t 15)), none⟩,
  ⟨some 17, .val (.field 3 (.t 1)), some (16, false)⟩,
  ⟨some 18, .val (.load1 (.t 17)), some (16, false)⟩,
  ⟨some 19, .val (.lenS (.t 18)), some (16, false)⟩,
  ⟨some 20, .val (.bin .gtr false (.t 19) (.k (.int .i64 20))), some (16, false)⟩,
  ⟨some 21, .val (.por (.t 16) (.t 20)), none⟩]
def law04_ref_r3 : List AOper := [
  ⟨some 22, .val (.loadA 4 (.t 4)), none⟩,
  ⟨none, .stA true 4 (.t 2) (.t 22), none⟩,
  ⟨some 3, .val (.mov (.k (.bool false))), none⟩]
def law04_ref_r4 : List AOper := [
  ⟨some 23, .val (.field 3 (.t 1)), none⟩,
  ⟨some 24, .val (.load1 (.t 23)), none⟩,
  ⟨some 25, .val (.lenS (.t 24)), none⟩,
  ⟨some 26, .val (.mov (.k (.int .i64 0))), none⟩]
def law04_ref_r5 : List AOper := [
  ⟨some 27, .val (.bin .lss false (.t 26) (.t 25)), none⟩]
def law04_ref_r6 : List AOper := [
  ⟨some 28, .val (.ixS 4 (.t 24) (.t 26)), none⟩,
  ⟨some 29, .val (.loadA 4 (.t 28)), none⟩,
  ⟨some 6, .alloc 4 [.int .i64 0, .int .i64 0, .int .i64 0, .str []], none⟩,
  ⟨none, .stA true 4 (.t 6) (.t 29), none⟩]
def law04_ref_r7 : List AOper := [
  ⟨some 30, .val (.field 3 (.t 6)), none⟩,
  ⟨some 31, .val (.load1 (.t 30)), none⟩,
  ⟨some 32, .val (.lenT (.t 31)), none⟩,
  ⟨some 33, .val (.bin .gtr false (.t 32) (.k (.int .i64 100))), none⟩]
def law04_ref_r8 : List AOper := [
  ⟨some 34, .val (.loadA 4 (.t 4)), none⟩,
  ⟨none, .stA true 4 (.t 2) (.t 34), none⟩,
  ⟨some 3, .val (.mov (.k (.bool false))), none⟩]
def law04_ref_r9 : List AOper := [
  ⟨some 35, .val (.field 3 (.t 4)), none⟩,
  ⟨some 36, .val (.load1 (.t 35)), none⟩,
  ⟨some 37, .val (.loadA 4 (.t 6)), none⟩,
  ⟨some 38, .buildS 4 1 [.int .i64 0, .int .i64 0, .int .i64 0, .str []] [(0, (.t 37))], none⟩,
  ⟨some 39, .app 4 40 (.t 36) (.t 38), none⟩,
  ⟨some 40, .val (.field 3 (.t 4)), none⟩,
  ⟨none, .st1 true (.t 40) (.t 39), none⟩]
def law04_ref_r10 : List AOper := [
  ⟨some 41, .val (.bin .add true (.t 26) (.k (.int .i64 1))), none⟩,
  ⟨some 26, .val (.mov (.t 41)), none⟩]
def law04_ref_r11 : List AOper := [
  ⟨some 42, .val (.loadA 4 (.t 4)), none⟩,
  ⟨none, .stA true 4 (.t 2) (.t 42), none⟩,
  ⟨some 3, .val (.mov (.k (.bool true))), none⟩]
def law04_ref_c (F : Nat → Nat) : ACode :=
  (.seq
    (.reg law04_ref_r0 (some ([1, 2], [1, 2, 38, 39])))
    (.seq
      (.reg law04_ref_r1 (some ([1, 2, 4], [1, 2, 4, 38, 39])))
      (.seq
        (.seq
          (.reg (law04_ref_r2 F) (some ([1, 2, 4, 21], [1, 2, 4, 38, 39])))
          (.cond (.t 21)
            (.seq
              (.reg law04_ref_r3 (some ([2, 3], [2, 38, 39])))
              .ret)
            .skip))
        (.seq
          (.seq
            (.reg law04_ref_r4 (some ([2, 4, 24, 25, 26], [2, 4, 38, 39])))
            (.block 0
              (.loop
                (.seq
                  (.reg law04_ref_r5 (some ([2, 4, 24, 25, 26, 27], [2, 4, 38, 39])))
                  (.seq
                    (.cond (.t 27)
                      .skip
                      (.exit 0))
                    (.seq
                      (.block 1
                        (.seq
                          (.reg law04_ref_r6 (some ([2, 4, 6, 24, 25, 26], [2, 4, 6, 38, 39])))
                          (.seq
                            (.seq
                              (.reg law04_ref_r7 (some ([2, 4, 6, 24, 25, 26, 33], [2, 4, 6, 38, 39])))
                              (.cond (.t 33)
                                (.seq
                                  (.reg law04_ref_r8 (some ([2, 3], [2, 38, 39])))
                                  .ret)
                                .skip))
                            (.reg law04_ref_r9 (some ([2, 4, 24, 25, 26], [2, 4, 38, 39]))))))
                      (.reg law04_ref_r10 (some ([2, 4, 24, 25, 26], [2, 4, 38, 39])))))))))
          (.seq
            (.reg law04_ref_r11 (some ([2, 3], [2, 38, 39])))
            .ret)))))
def law04_ref_k (P : Program) (F : Nat → Nat) : Prop := chkFn P (F 166) 1 (law04_ref_c F) [.loadA 4 (.t 2), 3] = true
def law04_awake_r0 : List AOper := [
  ⟨some 0, .val (.mov (.k (.bool false))), none⟩]
def law04_awake_r1 : List AOper := [
  ⟨some 1, .val (.mov (.k (.str [48, 49, 50, 51, 52, 53, 54, 55, 56, 57, 97, 98, 99, 100, 101, 102, 48, 49, 50, 51, 52, 53, 54, 55, 56, 57, 65, 66, 67, 68, 69, 70]))), none⟩]
def law04_awake_r2 (F : Nat → Nat) : List AOper := [
  ⟨some 13, .call (F 172) [], none⟩,
  ⟨some 14, .val (.mov (.t 1)), none⟩,
  ⟨some 15, .call (F 168) [(.t 13), (.k (.int .i64 2)), (.k (.int .i64 1)), (.t 14)], none⟩,
  ⟨some 12, .val (.mov (.t 15)), none⟩,
  ⟨some 16, .val (.extr 0 (.t 12)), none⟩,
  ⟨some 17, .val (.extr 1 (.t 12)), none⟩,
  ⟨some 18, .val (.extr 2 (.t 12)), none⟩,
  ⟨some 2, .alloc 4 [.nil 1, .nil 2, .int .i64 0, .nil 4], none⟩,
  ⟨none, .stA true 4 (.t 2) (.t 16), none⟩,
  ⟨some 3, .val (.mov (.t 17)), none⟩,
  ⟨some 4, .val (.mov (.t 18)), none⟩]
def law04_awake_r3 (F : Nat → Nat) : List AOper := [
  ⟨some 20, .val (.loadA 4 (.t 2)), none⟩,
  ⟨some 21, .call (F 168) [(.t 20), (.k (.int .i64 1)), (.k (.int .i64 1)), (.k (.str []))], none⟩,
  ⟨some 19, .val (.mov (.t 21)), none⟩,
  ⟨some 22, .val (.extr 0 (.t 19)), none⟩,
  ⟨some 23, .val (.extr 1 (.t 19)), none⟩,
  ⟨some 24, .val (.extr 2 (.t 19)), none⟩,
  ⟨none, .stA true 4 (.t 2) (.t 22), none⟩,
  ⟨some 5, .val (.mov (.t 23)), none⟩,
  ⟨some 6, .val (.mov (.t 24)), none⟩]
def law04_awake_r4 (F : Nat → Nat) : List AOper := [
  ⟨some 26, .val (.loadA 4 (.t 2)), none⟩,
  ⟨some 27, .call (F 149) [(.t 26), (.k (.int .i64 0)), (.k (.bool false))], none⟩,
  ⟨some 25, .val (.mov (.t 27)), none⟩,
  ⟨some 28, .val (.extr 0 (.t 25)), none⟩,
  ⟨some 29, .val (.extr 1 (.t 25)), none⟩,
  ⟨some 30, .val (.extr 2 (.t 25)), none⟩,
  ⟨some 7, .alloc 4 [.int .i64 0, .int .i64 0, .int .i64 0, .str []], none⟩,
  ⟨none, .stA true 4 (.t 2) (.t 28), none⟩,
  ⟨none, .stA true 4 (.t 7) (.t 29), none⟩,
  ⟨some 8, .val (.mov (.t 30)), none⟩]
def law04_awake_r5 (F : Nat → Nat) : List AOper := [
  ⟨some 32, .val (.loadA 4 (.t 2)), none⟩,
  ⟨some 33, .call (F 149) [(.t 32), (.k (.int .i64 0)), (.k (.bool false))], none⟩,
  ⟨some 31, .val (.mov (.t 33)), none⟩,
  ⟨some 34, .val (.extr 0 (.t 31)), none⟩,
  ⟨some 35, .val (.extr 1 (.t 31)), none⟩,
  ⟨some 36, .val (.extr 2 (.t 31)), none⟩,
  ⟨some 9, .alloc 4 [.nil 1, .nil 2, .int .i64 0, .nil 4], none⟩,
  ⟨some 10, .alloc 4 [.int .i64 0, .int .i64 0, .int .i64 0, .str []], none⟩,
  ⟨none, .stA true 4 (.t 9) (.t 34), none⟩,
  ⟨none, .stA true 4 (.t 10) (.t 35), none⟩,
  ⟨some 11, .val (.mov (.t 36)), none⟩]
def law04_awake_r6 : List AOper := [
  ⟨some 37, .val (.mov (.t 3)), none⟩,
  ⟨some 38, .val (.bin .eql false (.t 37) (.k (.int .i64 0))), none⟩,
  ⟨some 39, .val (.mov (.t 38)), none⟩,
  ⟨some 40, .val (.mov (.t 5)), some (39, true)⟩,
  ⟨some 41, .val (.bin .eql false (.t 40) (.k (.int .i64 1))), some (39, true)⟩,
  ⟨some 42, .val (.pand (.t 39) (.t 41)), none⟩,
  ⟨some 43, .val (.mov (.t 42)), none⟩,
  ⟨some 44, .val (.mov (.t 4)), some (43, true)⟩,
  ⟨some 45, .val (.bin .eql false (.t 44) (.k (.int .i64 0))), some (43, true)⟩,
  ⟨some 46, .val (.pand (.t 43) (.t 45)), none⟩,
  ⟨some 47, .val (.mov (.t 46)), none⟩,
  ⟨some 48, .val (.mov (.t 6)), some (47, true)⟩,
  ⟨some 49, .val (.bin .eql false (.t 48) (.k (.int .i64 0))), some (47, true)⟩,
  ⟨some 50, .val (.pand (.t 47) (.t 49)), none⟩,
  ⟨some 51, .val (.mov (.t 50)), none⟩,
  ⟨some 52, .val (.mov (.t 8)), some (51, true)⟩,
  ⟨some 53, .val (.bin .eql false (.t 52) (.k (.int .i64 0))), some (51, true)⟩,
  ⟨some 54, .val (.pand (.t 51) (.t 53)), none⟩,
  ⟨some 55, .val (.mov (.t 54)), none⟩,
  ⟨some 56, .val (.field 3 (.t 10)), some (55, true)⟩,
  ⟨some 57, .val (.load1 (.t 56)), some (55, true)⟩,
  ⟨some 58, .val (.mov (.t 1)), some (55, true)⟩,
  ⟨some 59, .val (.bin .eql false (.t 57) (.t 58)), some (55, true)⟩,
  ⟨some 60, .val (.pand (.t 55) (.t 59)), none⟩,
  ⟨some 61, .val (.mov (.t 60)), none⟩,
  ⟨some 62, .val (.mov (.t 11)), some (61, true)⟩,
  ⟨some 63, .val (.bin .eql false (.t 62) (.k (.int .i64 0))), some (61, true)⟩,
  ⟨some 64, .val (.pand (.t 61) (.t 63)), none⟩,
  ⟨some 65, .val (.mov (.t 64)), none⟩,
  ⟨some 66, .val (.por (.t 65) (.k (.bool false))), none⟩,
  ⟨some 0, .val (.mov (.t 66)), none⟩]
def law04_awake_c (F : Nat → Nat) : ACode :=
  (.seq
    (.reg law04_awake_r0 (some ([], [])))
    (.seq
      (.reg law04_awake_r1 (some ([1], [])))
      (.seq
        (.reg (law04_awake_r2 F) (some ([1, 2, 3, 4], [2])))
        (.seq
          (.reg (law04_awake_r3 F) (some ([1, 2, 3, 4, 5, 6], [2])))
          (.seq
            (.reg (law04_awake_r4 F) (some ([1, 2, 3, 4, 5, 6, 8], [2])))
            (.seq
              (.reg (law04_awake_r5 F) (some ([1, 3, 4, 5, 6, 8, 10, 11], [10])))
              (.seq
                (.reg law04_awake_r6 (some ([0], [])))
                .ret)))))))
def law04_awake_k (P : Program) (F : Nat → Nat) : Prop := chkFn P (F 167) 0 (law04_awake_c F) [0] = true
def device_Submit_r0 : List AOper := [
  ⟨some 4, .box 4 (.t 0), none⟩,
  ⟨some 8, .alloc 4 [.nil 1, .nil 2, .int .i64 0, .nil 4], none⟩,
  ⟨some 9, .val (.mov (.k (.int .i64 0))), none⟩,
  ⟨some 10, .val (.mov (.k (.int .i64 0))), none⟩]
def device_Submit_r1 (F : Nat → Nat) : List AOper := [
  ⟨some 13, .val (.loadA 4 (.t 4)), none⟩,
  ⟨some 14, .call (F 145) [(.t 13)], none⟩,
  ⟨some 15, .val (.not (.t 14)), none⟩,
  ⟨some 16, .val (.mov (.t 15)), none⟩,
  ⟨some 17, .val (.field 2 (.t 4)), some (16, false)⟩,
  ⟨some 18, .val (.load1 (.t 17)), some (16, false)⟩,
  ⟨some 19, .val (.bin .eql false (.t 18) (.k (.int .i64 2147483647))), some (16, false)⟩,
  ⟨some 20, .val (.por (.t 16) (.t 19)), none⟩,
  ⟨some 21, .val (.mov (.t 20)), none⟩,
  ⟨some 22, .val (.mov (.t 1)), some (21, false)⟩,
  ⟨some 23, .val (.mov (.t 2)), some (21, false)⟩,
  ⟨some 24, .val (.mov (.t 3)), some (21, false)⟩,
  ⟨some 25, .call (F 188) [(.t 22), (.t 23), (.t 24)], some (21, false)⟩,
  ⟨some 26, .val (.not (.t 25)), some (21, false)⟩,
  ⟨some 27, .val (.por (.t 21) (.t 26)), none⟩]
def device_Submit_r2 : List AOper := [
  ⟨some 28, .val (.loadA 4 (.t 4)), none⟩,
  ⟨none, .stA true 4 (.t 8) (.t 28), none⟩,
  ⟨some 9, .val (.mov (.k (.int .i64 0))), none⟩,
  ⟨some 10, .val (.mov (.k (.int .i64 1))), none⟩]
def device_Submit_r3 : List AOper := [
  ⟨some 29, .val (.field 3 (.t 4)), none⟩,
  ⟨some 30, .val (.load1 (.t 29)), none⟩,
  ⟨some 31, .val (.lenS (.t 30)), none⟩,
  ⟨some 32, .val (.bin .geq false (.t 31) (.k (.int .i64 4))), none⟩]
def device_Submit_r4 : List AOper := [
  ⟨some 33, .val (.loadA 4 (.t 4)), none⟩,
  ⟨none, .stA true 4 (.t 8) (.t 33), none⟩,
  ⟨some 9, .val (.mov (.k (.int .i64 0))), none⟩,
  ⟨some 10, .val (.mov (.k (.int .i64 6))), none⟩]
def device_Submit_r5 : List AOper := [
  ⟨some 34, .val (.field 2 (.t 4)), none⟩,
  ⟨some 35, .val (.load1 (.t 34)), none⟩,
  ⟨some 11, .val (.mov (.t 35)), none⟩]
def device_Submit_r6 : List AOper := [
  ⟨some 36, .val (.mov (.t 11)), none⟩,
  ⟨some 37, .val (.mov (.t 1)), none⟩,
  ⟨some 38, .val (.mov (.t 2)), none⟩,
  ⟨some 39, .val (.mov (.t 3)), none⟩,
  ⟨some 40, .val (.build 4 [.int .i64 0, .int .i64 0, .int .i64 0, .str []] [(0, 1, (.t 36)), (1, 1, (.t 37)), (2, 1, (.t 38)), (3, 1, (.t 39))]), none⟩,
  ⟨some 12, .alloc 4 [.int .i64 0, .int .i64 0, .int .i64 0, .str []], none⟩,
  ⟨none, .stA true 4 (.t 12) (.t 40), none⟩]
def device_Submit_r7 (F : Nat → Nat) : List AOper := [
  ⟨some 41, .val (.field 3 (.t 4)), none⟩,
  ⟨some 42, .val (.load1 (.t 41)), none⟩,
  ⟨some 43, .call (F 189) [(.t 42)], none⟩,
  ⟨some 44, .val (.loadA 4 (.t 12)), none⟩,
  ⟨some 45, .buildS 4 1 [.int .i64 0, .int .i64 0, .int .i64 0, .str []] [(0, (.t 44))], none⟩,
  ⟨some 46, .app 4 40 (.t 43) (.t 45), none⟩,
  ⟨some 47, .val (.field 3 (.t 4)), none⟩,
  ⟨none, .st1 true (.t 47) (.t 46), none⟩]
def device_Submit_r8 : List AOper := [
  ⟨some 48, .val (.field 2 (.t 4)), none⟩,
  ⟨some 49, .val (.load1 (.t 48)), none⟩,
  ⟨some 50, .val (.bin .add true (.t 49) (.k (.int .i64 1))), none⟩,
  ⟨some 51, .val (.field 2 (.t 4)), none⟩,
  ⟨none, .st1 true (.t 51) (.t 50), none⟩]
def device_Submit_r9 : List AOper := [
  ⟨some 52, .val (.loadA 4 (.t 4)), none⟩,
  ⟨some 53, .val (.mov (.t 11)), none⟩,
  ⟨none, .stA true 4 (.t 8) (.t 52), none⟩,
  ⟨some 9, .val (.mov (.t 53)), none⟩,
  ⟨some 10, .val (.mov (.k (.int .i64 0))), none⟩]
def device_Submit_c (F : Nat → Nat) : ACode :=
  (.seq
    (.reg device_Submit_r0 (some ([1, 2, 3, 4, 8], [4, 8, 45, 46, 1043])))
    (.seq
      (.seq
        (.reg (device_Submit_r1 F) (some ([1, 2, 3, 4, 8, 27], [4, 8, 45, 46, 1043])))
        (.cond (.t 27)
          (.seq
            (.reg device_Submit_r2 (some ([8, 9, 10], [8, 45, 46, 1043])))
            .ret)
          .skip))
      (.seq
        (.seq
          (.reg device_Submit_r3 (some ([1, 2, 3, 4, 8, 32], [4, 8, 45, 46, 1043])))
          (.cond (.t 32)
            (.seq
              (.reg device_Submit_r4 (some ([8, 9, 10], [8, 45, 46, 1043])))
              .ret)
            .skip))
        (.seq
          (.reg device_Submit_r5 (some ([1, 2, 3, 4, 8, 11], [4, 8, 45, 46, 1043])))
          (.seq
            (.reg device_Submit_r6 (some ([4, 8, 11, 12], [4, 8, 12, 45, 46, 1043])))
            (.seq
              (.regD (device_Submit_r7 F) [(2, 3), (0, 4), (1, 4), (2, 4)] (some ([4, 8, 11], [4, 8, 45, 46, 1043])))
              (.seq
                (.reg device_Submit_r8 (some ([4, 8, 11], [4, 8, 45, 46, 1043])))
                (.seq
                  (.reg device_Submit_r9 (some ([8, 9, 10], [8, 45, 46, 1043])))
                  .ret))))))))
def device_Submit_k (P : Program) (F : Nat → Nat) : Prop := chkFn P (F 168) 4 (device_Submit_c F) [.loadA 4 (.t 8), 9, 10] = true
def ref04_Submit_r0 : List AOper := [
  ⟨some 4, .box 4 (.t 0), none⟩,
  ⟨some 8, .alloc 4 [.nil 1, .nil 2, .int .i64 0, .nil 4], none⟩,
  ⟨some 9, .val (.mov (.k (.int .i64 0))), none⟩,
  ⟨some 10, .val (.mov (.k (.int .i64 0))), none⟩]
def ref04_Submit_r1 (F : Nat → Nat) : List AOper := [
  ⟨some 12, .val (.loadA 4 (.t 4)), none⟩,
  ⟨some 13, .call (F 171) [(.t 12)], none⟩,
  ⟨some 14, .val (.not (.t 13)), none⟩,
  ⟨some 15, .val (.mov (.t 14)), none⟩,
  ⟨some 16, .val (.field 2 (.t 4)), some (15, false)⟩,
  ⟨some 17, .val (.load1 (.t 16)), some (15, false)⟩,
  ⟨some 18, .val (.bin .eql false (.t 17) (.k (.int .i64 2147483647))), some (15, false)⟩,
  ⟨some 19, .val (.por (.t 15) (.t 18)), none⟩,
  ⟨some 20, .val (.mov (.t 19)), none⟩,
  ⟨some 21, .val (.mov (.t 1)), some (20, false)⟩,
  ⟨some 22, .val (.mov (.t 2)), some (20, false)⟩,
  ⟨some 23, .val (.mov (.t 3)), some (20, false)⟩,
  ⟨some 24, .call (F 190) [(.t 21), (.t 22), (.t 23)], some (20, false)⟩,
  ⟨some 25, .val (.not (.t 24)), some (20, false)⟩,
  ⟨some 26, .val (.por (.t 20) (.t 25)), none⟩]
def ref04_Submit_r2 : List AOper := [
  ⟨some 27, .val (.loadA 4 (.t 4)), none⟩,
  ⟨none, .stA true 4 (.t 8) (.t 27), none⟩,
  ⟨some 9, .val (.mov (.k (.int .i64 0))), none⟩,
  ⟨some 10, .val (.mov (.k (.int .i64 1))), none⟩]
def ref04_Submit_r3 : List AOper := [
  ⟨some 28, .val (.field 3 (.t 4)), none⟩,
  ⟨some 29, .val (.load1 (.t 28)), none⟩,
  ⟨some 30, .val (.lenS (.t 29)), none⟩,
  ⟨some 31, .val (.bin .eql false (.t 30) (.k (.int .i64 4))), none⟩]
def ref04_Submit_r4 : List AOper := [
  ⟨some 32, .val (.loadA 4 (.t 4)), none⟩,
  ⟨none, .stA true 4 (.t 8) (.t 32), none⟩,
  ⟨some 9, .val (.mov (.k (.int .i64 0))), none⟩,
  ⟨some 10, .val (.mov (.k (.int .i64 6))), none⟩]
def ref04_Submit_r5 : List AOper := [
  ⟨some 33, .val (.field 0 (.t 4)), none⟩,
  ⟨some 34, .val (.loadA 2 (.t 33)), none⟩,
  ⟨some 35, .val (.field 2 (.t 4)), none⟩,
  ⟨some 36, .val (.load1 (.t 35)), none⟩,
  ⟨some 37, .val (.bin .add true (.t 36) (.k (.int .i64 1))), none⟩,
  ⟨some 38, .val (.build 4 [.nil 1, .nil 2, .int .i64 0, .nil 4] [(0, 2, (.t 34)), (2, 1, (.t 37))]), none⟩,
  ⟨some 11, .alloc 4 [.nil 1, .nil 2, .int .i64 0, .nil 4], none⟩,
  ⟨none, .stA true 4 (.t 11) (.t 38), none⟩]
def ref04_Submit_r6 : List AOper := [
  ⟨some 39, .val (.field 3 (.t 11)), none⟩,
  ⟨some 40, .val (.load1 (.t 39)), none⟩,
  ⟨some 41, .val (.field 3 (.t 4)), none⟩,
  ⟨some 42, .val (.load1 (.t 41)), none⟩,
  ⟨some 43, .app 4 40 (.t 40) (.t 42), none⟩,
  ⟨some 44, .val (.field 3 (.t 11)), none⟩,
  ⟨none, .st1 true (.t 44) (.t 43), none⟩]
def ref04_Submit_r7 : List AOper := [
  ⟨some 45, .val (.field 3 (.t 11)), none⟩,
  ⟨some 46, .val (.load1 (.t 45)), none⟩,
  ⟨some 47, .val (.field 2 (.t 4)), none⟩,
  ⟨some 48, .val (.load1 (.t 47)), none⟩,
  ⟨some 49, .val (.mov (.t 1)), none⟩,
  ⟨some 50, .val (.mov (.t 2)), none⟩,
  ⟨some 51, .val (.mov (.t 3)), none⟩,
  ⟨some 52, .val (.build 4 [.int .i64 0, .int .i64 0, .int .i64 0, .str []] [(0, 1, (.t 48)), (1, 1, (.t 49)), (2, 1, (.t 50)), (3, 1, (.t 51))]), none⟩,
  ⟨some 53, .buildS 4 1 [.int .i64 0, .int .i64 0, .int .i64 0, .str []] [(0, (.t 52))], none⟩,
  ⟨some 54, .app 4 40 (.t 46) (.t 53), none⟩,
  ⟨some 55, .val (.field 3 (.t 11)), none⟩,
  ⟨none, .st1 true (.t 55) (.t 54), none⟩]
def ref04_Submit_r8 : List AOper := [
  ⟨some 56, .val (.loadA 4 (.t 11)), none⟩,
  ⟨some 57, .val (.field 2 (.t 4)), none⟩,
  ⟨some 58, .val (.load1 (.t 57)), none⟩,
  ⟨none, .stA true 4 (.t 8) (.t 56), none⟩,
  ⟨some 9, .val (.mov (.t 58)), none⟩,
  ⟨some 10, .val (.mov (.k (.int .i64 0))), none⟩]
def ref04_Submit_c (F : Nat → Nat) : ACode :=
  (.seq
    (.reg ref04_Submit_r0 (some ([1, 2, 3, 4, 8], [4, 8, 43, 53, 54])))
    (.seq
      (.seq
        (.reg (ref04_Submit_r1 F) (some ([1, 2, 3, 4, 8, 26], [4, 8, 43, 53, 54])))
        (.cond (.t 26)
          (.seq
            (.reg ref04_Submit_r2 (some ([8, 9, 10], [8, 43, 53, 54])))
            .ret)
          .skip))
      (.seq
        (.seq
          (.reg ref04_Submit_r3 (some ([1, 2, 3, 4, 8, 31], [4, 8, 43, 53, 54])))
          (.cond (.t 31)
            (.seq
              (.reg ref04_Submit_r4 (some ([8, 9, 10], [8, 43, 53, 54])))
              .ret)
            .skip))
        (.seq
          (.reg ref04_Submit_r5 (some ([1, 2, 3, 4, 8, 11], [4, 8, 11, 43, 53, 54])))
          (.seq
            (.reg ref04_Submit_r6 (some ([1, 2, 3, 4, 8, 11], [4, 8, 11, 43, 53, 54])))
            (.seq
              (.reg ref04_Submit_r7 (some ([4, 8, 11], [4, 8, 11, 43, 53, 54])))
              (.seq
                (.regD ref04_Submit_r8 [(1, 3), (2, 3)] (some ([8, 9, 10], [8, 43, 53, 54])))
                .ret)))))))
def ref04_Submit_k (P : Program) (F : Nat → Nat) : Prop := chkFn P (F 169) 4 (ref04_Submit_c F) [.loadA 4 (.t 8), 9, 10] = true
def ref04_Same_r0 : List AOper := [
  ⟨some 2, .box 4 (.t 0), none⟩,
  ⟨some 3, .box 4 (.t 1), none⟩,
  ⟨some 4, .val (.mov (.k (.bool false))), none⟩]
def ref04_Same_r1 (F : Nat → Nat) : List AOper := [
  ⟨some 6, .val (.field 0 (.t 2)), none⟩,
  ⟨some 7, .val (.loadA 2 (.t 6)), none⟩,
  ⟨some 8, .val (.field 0 (.t 3)), none⟩,
  ⟨some 9, .val (.loadA 2 (.t 8)), none⟩,
  ⟨some 10, .call (F 38) [(.t 7), (.t 9)], none⟩,
  ⟨some 11, .val (.not (.t 10)), none⟩,
  ⟨some 12, .val (.mov (.t 11)), none⟩,
  ⟨some 13, .val (.field 2 (.t 2)), some (12, false)⟩,
  ⟨some 14, .val (.load1 (.t 13)), some (12, false)⟩,
  ⟨some 15, .val (.field 2 (.t 3)), some (12, false)⟩,
  ⟨some 16, .val (.load1 (.t 15)), some (12, false)⟩,
  ⟨some 17, .val (.bin .neq false (.t 14) (.t 16)), some (12, false)⟩,
  ⟨some 18, .val (.por (.t 12) (.t 17)), none⟩,
  ⟨some 19, .val (.mov (.t 18)), none⟩,
  ⟨some 20, .val (.field 3 (.t 2)), some (19, false)⟩,
  ⟨some 21, .val (.load1 (.t 20)), some (19, false)⟩,
  ⟨some 22, .val (.lenS (.t 21)), some (19, false)⟩,
  ⟨some 23, .val (.field 3 (.t 3)), some (19, false)⟩,
  ⟨some 24, .val (.load1 (.t 23)), some (19, false)⟩,
  ⟨some 25, .val (.lenS (.t 24)), some (19, false)⟩,
  ⟨some 26, .val (.bin .neq false (.t 22) (.t 25)), some (19, false)⟩,
  ⟨some 27, .val (.por (.t 19) (.t 26)), none⟩]
def ref04_Same_r2 : List AOper := [
  ⟨some 4, .val (.mov (.k (.bool false))), none⟩]
def ref04_Same_r3 : List AOper := [
  ⟨some 5, .val (.mov (.k (.int .i64 0))), none⟩]
def ref04_Same_r4 : List AOper := [
  ⟨some 28, .val (.mov (.t 5)), none⟩,
  ⟨some 29, .val (.field 3 (.t 2)), none⟩,
  ⟨some 30, .val (.load1 (.t 29)), none⟩,
  ⟨some 31, .val (.lenS (.t 30)), none⟩,
  ⟨some 32, .val (.bin .lss false (.t 28) (.t 31)), none⟩]
def ref04_Same_r6 : List AOper := [
  ⟨some 35, .val (.field 3 (.t 2)), none⟩,
  ⟨some 36, .val (.load1 (.t 35)), none⟩,
  ⟨some 37, .val (.mov (.t 5)), none⟩,
  ⟨some 38, .val (.ixS 4 (.t 36) (.t 37)), none⟩,
  ⟨some 39, .val (.loadA 4 (.t 38)), none⟩,
  ⟨some 40, .val (.field 3 (.t 3)), none⟩,
  ⟨some 41, .val (.load1 (.t 40)), none⟩,
  ⟨some 42, .val (.mov (.t 5)), none⟩,
  ⟨some 43, .val (.ixS 4 (.t 41) (.t 42)), none⟩,
  ⟨some 44, .val (.loadA 4 (.t 43)), none⟩,
  ⟨some 45, .val (.eqA true [0, 0, 0, 2] (.t 39) (.t 44)), none⟩]
def ref04_Same_r7 : List AOper := [
  ⟨some 4, .val (.mov (.k (.bool false))), none⟩]
def ref04_Same_r5 : List AOper := [
  ⟨some 33, .val (.mov (.t 5)), none⟩,
  ⟨some 34, .val (.bin .add true (.t 33) (.k (.int .i64 1))), none⟩,
  ⟨some 5, .val (.mov (.t 34)), none⟩]
def ref04_Same_r8 : List AOper := [
  ⟨some 4, .val (.mov (.k (.bool true))), none⟩]
def ref04_Same_c (F : Nat → Nat) : ACode :=
  (.seq
    (.reg ref04_Same_r0 (some ([2, 3], [2, 3])))
    (.seq
      (.seq
        (.reg (ref04_Same_r1 F) (some ([2, 3, 27], [2, 3])))
        (.cond (.t 27)
          (.seq
            (.reg ref04_Same_r2 (some ([4], [])))
            .ret)
          .skip))
      (.seq
        (.seq
          (.reg ref04_Same_r3 (some ([2, 3, 5], [2, 3])))
          (.block 0
            (.loop
              (.seq
                (.seq
                  (.reg ref04_Same_r4 (some ([2, 3, 5, 32], [2, 3])))
                  (.cond (.t 32)
                    .skip
                    (.exit 0)))
                (.seq
                  (.block 1
                    (.seq
                      (.regD ref04_Same_r6 [] (some ([2, 3, 5, 45], [2, 3])))
                      (.cond (.t 45)
                        (.seq
                          (.reg ref04_Same_r7 (some ([4], [])))
                          .ret)
                        .skip)))
                  (.reg ref04_Same_r5 (some ([2, 3, 5], [2, 3]))))))))
        (.seq
          (.reg ref04_Same_r8 (some ([4], [])))
          .ret))))
def ref04_Same_k (P : Program) (F : Nat → Nat) : Prop := chkFn P (F 170) 2 (ref04_Same_c F) [4] = true
def device_Right_r0 : List AOper := [
  ⟨some 1, .box 4 (.t 0), none⟩,
  ⟨some 2, .val (.mov (.k (.bool false))), none⟩]
def device_Right_r1 (F : Nat → Nat) : List AOper := [
  ⟨some 6, .val (.field 0 (.t 1)), none⟩,
  ⟨some 7, .val (.loadA 2 (.t 6)), none⟩,
  ⟨some 8, .call (F 40) [(.t 7)], none⟩,
  ⟨some 9, .val (.not (.t 8)), none⟩,
  ⟨some 10, .val (.mov (.t 9)), none⟩,
  ⟨some 11, .val (.field 0 (.t 1)), some (10, false)⟩,
  ⟨some 12, .val (.field 0 (.t 11)), some (10, false)⟩,
  ⟨some 13, .val (.load1 (.t 12)), some (10, false)⟩,
  ⟨some 14, .val (.lenS (.t 13)), some (10, false)⟩,
  ⟨some 15, .val (.bin .lss false (.t 14) (.k (.int .i64 35))), some (10, false)⟩,
  ⟨some 16, .val (.por (.t 10) (.t 15)), none⟩]
def device_Right_r2 : List AOper := [
  ⟨some 2, .val (.mov (.k (.bool false))), none⟩]
def device_Right_r3 : List AOper := [
  ⟨some 17, .val (.field 2 (.t 1)), none⟩,
  ⟨some 18, .val (.load1 (.t 17)), none⟩,
  ⟨some 19, .val (.bin .lss false (.t 18) (.k (.int .i64 0))), none⟩,
  ⟨some 20, .val (.mov (.t 19)), none⟩,
  ⟨some 21, .val (.field 2 (.t 1)), some (20, false)⟩,
  ⟨some 22, .val (.load1 (.t 21)), some (20, false)⟩,
  ⟨some 23, .val (.bin .gtr false (.t 22) (.k (.int .i64 2147483647))), some (20, false)⟩,
  ⟨some 24, .val (.por (.t 20) (.t 23)), none⟩,
  ⟨some 25, .val (.mov (.t 24)), none⟩,
  ⟨some 26, .val (.field 3 (.t 1)), some (25, false)⟩,
  ⟨some 27, .val (.load1 (.t 26)), some (25, false)⟩,
  ⟨some 28, .val (.lenS (.t 27)), some (25, false)⟩,
  ⟨some 29, .val (.bin .gtr false (.t 28) (.k (.int .i64 4))), some (25, false)⟩,
  ⟨some 30, .val (.por (.t 25) (.t 29)), none⟩]
def device_Right_r4 : List AOper := [
  ⟨some 2, .val (.mov (.k (.bool false))), none⟩]
def device_Right_r5 : List AOper := [
  ⟨some 3, .val (.mov (.k (.int .i64 (-1)))), none⟩]
def device_Right_r6 : List AOper := [
  ⟨some 31, .val (.field 3 (.t 1)), none⟩,
  ⟨some 32, .val (.load1 (.t 31)), none⟩,
  ⟨some 33, .val (.lenS (.t 32)), none⟩,
  ⟨some 34, .val (.mov (.k (.int .i64 0))), none⟩]
def device_Right_r7 : List AOper := [
  ⟨some 35, .val (.bin .lss false (.t 34) (.t 33)), none⟩]
def device_Right_r8 : List AOper := [
  ⟨some 36, .val (.ixS 4 (.t 32) (.t 34)), none⟩,
  ⟨some 37, .val (.loadA 4 (.t 36)), none⟩,
  ⟨some 5, .alloc 4 [.int .i64 0, .int .i64 0, .int .i64 0, .str []], none⟩,
  ⟨none, .stA true 4 (.t 5) (.t 37), none⟩]
def device_Right_r9 : List AOper := [
  ⟨some 38, .val (.field 0 (.t 5)), none⟩,
  ⟨some 39, .val (.load1 (.t 38)), none⟩,
  ⟨some 40, .val (.mov (.t 3)), none⟩,
  ⟨some 41, .val (.bin .leq false (.t 39) (.t 40)), none⟩,
  ⟨some 42, .val (.mov (.t 41)), none⟩,
  ⟨some 43, .val (.field 0 (.t 5)), some (42, false)⟩,
  ⟨some 44, .val (.load1 (.t 43)), some (42, false)⟩,
  ⟨some 45, .val (.field 2 (.t 1)), some (42, false)⟩,
  ⟨some 46, .val (.load1 (.t 45)), some (42, false)⟩,
  ⟨some 47, .val (.bin .geq false (.t 44) (.t 46)), some (42, false)⟩,
  ⟨some 48, .val (.por (.t 42) (.t 47)), none⟩]
def device_Right_r10 : List AOper := [
  ⟨some 2, .val (.mov (.k (.bool false))), none⟩]
def device_Right_r11 (F : Nat → Nat) : List AOper := [
  ⟨some 49, .val (.field 1 (.t 5)), none⟩,
  ⟨some 50, .val (.load1 (.t 49)), none⟩,
  ⟨some 51, .val (.field 2 (.t 5)), none⟩,
  ⟨some 52, .val (.load1 (.t 51)), none⟩,
  ⟨some 53, .val (.field 3 (.t 5)), none⟩,
  ⟨some 54, .val (.load1 (.t 53)), none⟩,
  ⟨some 55, .call (F 188) [(.t 50), (.t 52), (.t 54)], none⟩,
  ⟨some 56, .val (.not (.t 55)), none⟩]
def device_Right_r12 : List AOper := [
  ⟨some 2, .val (.mov (.k (.bool false))), none⟩]
def device_Right_r13 : List AOper := [
  ⟨some 57, .val (.field 0 (.t 5)), none⟩,
  ⟨some 58, .val (.load1 (.t 57)), none⟩,
  ⟨some 3, .val (.mov (.t 58)), none⟩]
def device_Right_r14 : List AOper := [
  ⟨some 59, .val (.bin .add true (.t 34) (.k (.int .i64 1))), none⟩,
  ⟨some 34, .val (.mov (.t 59)), none⟩]
def device_Right_r15 : List AOper := [
  ⟨some 2, .val (.mov (.k (.bool true))), none⟩]
def device_Right_c (F : Nat → Nat) : ACode :=
  (.seq
    (.reg device_Right_r0 (some ([1], [1])))
    (.seq
      (.seq
        (.reg (device_Right_r1 F) (some ([1, 16], [1])))
        (.cond (.t 16)
          (.seq
            (.reg device_Right_r2 (some ([2], [])))
            .ret)
          .skip))
      (.seq
        (.seq
          (.reg device_Right_r3 (some ([1, 30], [1])))
          (.cond (.t 30)
            (.seq
              (.reg device_Right_r4 (some ([2], [])))
              .ret)
            .skip))
        (.seq
          (.reg device_Right_r5 (some ([1, 3], [1])))
          (.seq
            (.seq
              (.reg device_Right_r6 (some ([1, 3, 32, 33, 34], [1])))
              (.block 0
                (.loop
                  (.seq
                    (.reg device_Right_r7 (some ([1, 3, 32, 33, 34, 35], [1])))
                    (.seq
                      (.cond (.t 35)
                        .skip
                        (.exit 0))
                      (.seq
                        (.block 1
                          (.seq
                            (.reg device_Right_r8 (some ([1, 3, 5, 32, 33, 34], [1, 5])))
                            (.seq
                              (.seq
                                (.reg device_Right_r9 (some ([1, 5, 32, 33, 34, 48], [1, 5])))
                                (.cond (.t 48)
                                  (.seq
                                    (.reg device_Right_r10 (some ([2], [])))
                                    .ret)
                                  .skip))
                              (.seq
                                (.seq
                                  (.reg (device_Right_r11 F) (some ([1, 5, 32, 33, 34, 56], [1, 5])))
                                  (.cond (.t 56)
                                    (.seq
                                      (.reg device_Right_r12 (some ([2], [])))
                                      .ret)
                                    .skip))
                                (.reg device_Right_r13 (some ([1, 3, 32, 33, 34], [1])))))))
                        (.reg device_Right_r14 (some ([1, 3, 32, 33, 34], [1])))))))))
            (.seq
              (.reg device_Right_r15 (some ([2], [])))
              .ret))))))
def device_Right_k (P : Program) (F : Nat → Nat) : Prop := chkFn P (F 145) 1 (device_Right_c F) [2] = true
def ref04_Right_r0 : List AOper := [
  ⟨some 1, .box 4 (.t 0), none⟩,
  ⟨some 2, .val (.mov (.k (.bool false))), none⟩]
def ref04_Right_r1 (F : Nat → Nat) : List AOper := [
  ⟨some 5, .val (.field 0 (.t 1)), none⟩,
  ⟨some 6, .val (.loadA 2 (.t 5)), none⟩,
  ⟨some 7, .call (F 32) [(.t 6)], none⟩,
  ⟨some 8, .val (.not (.t 7)), none⟩,
  ⟨some 9, .val (.mov (.t 8)), none⟩,
  ⟨some 10, .val (.field 0 (.t 1)), some (9, false)⟩,
  ⟨some 11, .val (.field 0 (.t 10)), some (9, false)⟩,
  ⟨some 12, .val (.load1 (.t 11)), some (9, false)⟩,
  ⟨some 13, .val (.lenS (.t 12)), some (9, false)⟩,
  ⟨some 14, .val (.bin .lss false (.t 13) (.k (.int .i64 35))), some (9, false)⟩,
  ⟨some 15, .val (.por (.t 9) (.t 14)), none⟩,
  ⟨some 16, .val (.mov (.t 15)), none⟩,
  ⟨some 17, .val (.field 2 (.t 1)), some (16, false)⟩,
  ⟨some 18, .val (.load1 (.t 17)), some (16, false)⟩,
  ⟨some 19, .val (.bin .lss false (.t 18) (.k (.int .i64 0))), some (16, false)⟩,
  ⟨some 20, .val (.por (.t 16) (.t 19)), none⟩,
  ⟨some 21, .val (.mov (.t 20)), none⟩,
  ⟨some 22, .val (.field 2 (.t 1)), some (21, false)⟩,
  ⟨some 23, .val (.load1 (.t 22)), some (21, false)⟩,
  ⟨some 24, .val (.bin .gtr false (.t 23) (.k (.int .i64 2147483647))), some (21, false)⟩,
  ⟨some 25, .val (.por (.t 21) (.t 24)), none⟩,
  ⟨some 26, .val (.mov (.t 25)), none⟩,
  ⟨some 27, .val (.field 3 (.t 1)), some (26, false)⟩,
  ⟨some 28, .val (.load1 (.t 27)), some (26, false)⟩,
  ⟨some 29, .val (.lenS (.t 28)), some (26, false)⟩,
  ⟨some 30, .val (.bin .gtr false (.t 29) (.k (.int .i64 4))), some (26, false)⟩,
  ⟨some 31, .val (.por (.t 26) (.t 30)), none⟩]
def ref04_Right_r2 : List AOper := [
  ⟨some 2, .val (.mov (.k (.bool false))), none⟩]
def ref04_Right_r3 : List AOper := [
  ⟨some 3, .val (.mov (.k (.int .i64 0))), none⟩]
def ref04_Right_r4 : List AOper := [
  ⟨some 32, .val (.mov (.t 3)), none⟩,
  ⟨some 33, .val (.field 3 (.t 1)), none⟩,
  ⟨some 34, .val (.load1 (.t 33)), none⟩,
  ⟨some 35, .val (.lenS (.t 34)), none⟩,
  ⟨some 36, .val (.bin .lss false (.t 32) (.t 35)), none⟩]
def ref04_Right_r6 : List AOper := [
  ⟨some 39, .val (.field 3 (.t 1)), none⟩,
  ⟨some 40, .val (.load1 (.t 39)), none⟩,
  ⟨some 41, .val (.mov (.t 3)), none⟩,
  ⟨some 42, .val (.ixS 4 (.t 40) (.t 41)), none⟩,
  ⟨some 43, .val (.loadA 4 (.t 42)), none⟩,
  ⟨some 4, .alloc 4 [.int .i64 0, .int .i64 0, .int .i64 0, .str []], none⟩,
  ⟨none, .stA true 4 (.t 4) (.t 43), none⟩]
def ref04_Right_r7 (F : Nat → Nat) : List AOper := [
  ⟨some 44, .val (.field 0 (.t 4)), none⟩,
  ⟨some 45, .val (.load1 (.t 44)), none⟩,
  ⟨some 46, .val (.bin .lss false (.t 45) (.k (.int .i64 0))), none⟩,
  ⟨some 47, .val (.mov (.t 46)), none⟩,
  ⟨some 48, .val (.field 0 (.t 4)), some (47, false)⟩,
  ⟨some 49, .val (.load1 (.t 48)), some (47, false)⟩,
  ⟨some 50, .val (.field 2 (.t 1)), some (47, false)⟩,
  ⟨some 51, .val (.load1 (.t 50)), some (47, false)⟩,
  ⟨some 52, .val (.bin .geq false (.t 49) (.t 51)), some (47, false)⟩,
  ⟨some 53, .val (.por (.t 47) (.t 52)), none⟩,
  ⟨some 54, .val (.mov (.t 53)), none⟩,
  ⟨some 55, .val (.mov (.t 3)), some (54, false)⟩,
  ⟨some 56, .val (.bin .gtr false (.t 55) (.k (.int .i64 0))), some (54, false)⟩,
  ⟨some 57, .val (.mov (.t 56)), some (54, false)⟩,
  ⟨some 58, .val (.field 0 (.t 4)), some (57, true)⟩,
  ⟨some 59, .val (.load1 (.t 58)), some (57, true)⟩,
  ⟨some 60, .val (.field 3 (.t 1)), some (57, true)⟩,
  ⟨some 61, .val (.load1 (.t 60)), some (57, true)⟩,
  ⟨some 62, .val (.mov (.t 3)), some (57, true)⟩,
  ⟨some 63, .val (.bin .sub true (.t 62) (.k (.int .i64 1))), some (57, true)⟩,
  ⟨some 64, .val (.ixS 4 (.t 61) (.t 63)), some (57, true)⟩,
  ⟨some 65, .val (.field 0 (.t 64)), some (57, true)⟩,
  ⟨some 66, .val (.load1 (.t 65)), some (57, true)⟩,
  ⟨some 67, .val (.bin .leq false (.t 59) (.t 66)), some (57, true)⟩,
  ⟨some 68, .val (.pand (.t 57) (.t 67)), some (54, false)⟩,
  ⟨some 69, .val (.por (.t 54) (.t 68)), none⟩,
  ⟨some 70, .val (.mov (.t 69)), none⟩,
  ⟨some 71, .val (.field 1 (.t 4)), some (70, false)⟩,
  ⟨some 72, .val (.load1 (.t 71)), some (70, false)⟩,
  ⟨some 73, .val (.field 2 (.t 4)), some (70, false)⟩,
  ⟨some 74, .val (.load1 (.t 73)), some (70, false)⟩,
  ⟨some 75, .val (.field 3 (.t 4)), some (70, false)⟩,
  ⟨some 76, .val (.load1 (.t 75)), some (70, false)⟩,
  ⟨some 77, .call (F 190) [(.t 72), (.t 74), (.t 76)], some (70, false)⟩,
  ⟨some 78, .val (.not (.t 77)), some (70, false)⟩,
  ⟨some 79, .val (.por (.t 70) (.t 78)), none⟩]
def ref04_Right_r8 : List AOper := [
  ⟨some 2, .val (.mov (.k (.bool false))), none⟩]
def ref04_Right_r5 : List AOper := [
  ⟨some 37, .val (.mov (.t 3)), none⟩,
  ⟨some 38, .val (.bin .add true (.t 37) (.k (.int .i64 1))), none⟩,
  ⟨some 3, .val (.mov (.t 38)), none⟩]
def ref04_Right_r9 : List AOper := [
  ⟨some 2, .val (.mov (.k (.bool true))), none⟩]
def ref04_Right_c (F : Nat → Nat) : ACode :=
  (.seq
    (.reg ref04_Right_r0 (some ([1], [1])))
    (.seq
      (.seq
        (.reg (ref04_Right_r1 F) (some ([1, 31], [1])))
        (.cond (.t 31)
          (.seq
            (.reg ref04_Right_r2 (some ([2], [])))
            .ret)
          .skip))
      (.seq
        (.seq
          (.reg ref04_Right_r3 (some ([1, 3], [1])))
          (.block 0
            (.loop
              (.seq
                (.seq
                  (.reg ref04_Right_r4 (some ([1, 3, 36], [1])))
                  (.cond (.t 36)
                    .skip
                    (.exit 0)))
                (.seq
                  (.block 1
                    (.seq
                      (.reg ref04_Right_r6 (some ([1, 3, 4], [1, 4])))
                      (.seq
                        (.regD (ref04_Right_r7 F) [] (some ([1, 3, 79], [1])))
                        (.cond (.t 79)
                          (.seq
                            (.reg ref04_Right_r8 (some ([2], [])))
                            .ret)
                          .skip))))
                  (.reg ref04_Right_r5 (some ([1, 3], [1]))))))))
        (.seq
          (.reg ref04_Right_r9 (some ([2], [])))
          .ret))))
def ref04_Right_k (P : Program) (F : Nat → Nat) : Prop := chkFn P (F 171) 1 (ref04_Right_c F) [2] = true
def law04_New_r0 : List AOper := [
  ⟨some 0, .alloc 4 [.nil 1, .nil 2, .int .i64 0, .nil 4], none⟩]
def law04_New_r1 (F : Nat → Nat) : List AOper := [
  ⟨some 4, .call (F 28) [(.k (.int .i64 35))], none⟩,
  ⟨some 3, .val (.mov (.t 4)), none⟩,
  ⟨some 5, .val (.extr 0 (.t 3)), none⟩,
  ⟨some 6, .val (.extr 1 (.t 3)), none⟩,
  ⟨some 1, .alloc 2 [.nil 1, .nil 2], none⟩,
  ⟨none, .stA true 2 (.t 1) (.t 5), none⟩,
  ⟨some 2, .val (.mov (.t 6)), none⟩]
def law04_New_r2 : List AOper := [
  ⟨some 7, .val (.loadA 2 (.t 1)), none⟩,
  ⟨some 8, .val (.build 4 [.nil 1, .nil 2, .int .i64 0, .nil 4] [(0, 2, (.t 7))]), none⟩,
  ⟨none, .stA true 4 (.t 0) (.t 8), none⟩]
def law04_New_c (F : Nat → Nat) : ACode :=
  (.seq
    (.reg law04_New_r0 (some ([0], [0])))
    (.seq
      (.reg (law04_New_r1 F) (some ([0, 1], [0, 1])))
      (.seq
        (.reg law04_New_r2 (some ([0], [0])))
        .ret)))
def law04_New_k (P : Program) (F : Nat → Nat) : Prop := chkFn P (F 172) 0 (law04_New_c F) [.loadA 4 (.t 0)] = true
def device_Finish_r0 : List AOper := [
  ⟨some 3, .box 4 (.t 0), none⟩,
  ⟨some 6, .alloc 4 [.nil 1, .nil 2, .int .i64 0, .nil 4], none⟩,
  ⟨some 7, .alloc 4 [.int .i64 0, .int .i64 0, .int .i64 0, .str []], none⟩,
  ⟨some 8, .val (.mov (.k (.int .i64 0))), none⟩]
def device_Finish_r1 (F : Nat → Nat) : List AOper := [
  ⟨some 15, .val (.loadA 4 (.t 3)), none⟩,
  ⟨some 16, .call (F 145) [(.t 15)], none⟩,
  ⟨some 17, .val (.not (.t 16)), none⟩,
  ⟨some 18, .val (.mov (.t 17)), none⟩,
  ⟨some 19, .val (.mov (.t 1)), some (18, false)⟩,
  ⟨some 20, .val (.bin .lss false (.t 19) (.k (.int .i64 0))), some (18, false)⟩,
  ⟨some 21, .val (.por (.t 18) (.t 20)), none⟩,
  ⟨some 22, .val (.mov (.t 21)), none⟩,
  ⟨some 23, .val (.mov (.t 1)), some (22, false)⟩,
  ⟨some 24, .val (.field 3 (.t 3)), some (22, false)⟩,
  ⟨some 25, .val (.load1 (.t 24)), some (22, false)⟩,
  ⟨some 26, .val (.lenS (.t 25)), some (22, false)⟩,
  ⟨some 27, .val (.bin .geq false (.t 23) (.t 26)), some (22, false)⟩,
  ⟨some 28, .val (.por (.t 22) (.t 27)), none⟩]
def device_Finish_r2 : List AOper := [
  ⟨some 29, .val (.loadA 4 (.t 3)), none⟩,
  ⟨some 30, .val (.build 4 [.int .i64 0, .int .i64 0, .int .i64 0, .str []] []), none⟩,
  ⟨none, .stA true 4 (.t 6) (.t 29), none⟩,
  ⟨none, .stA true 4 (.t 7) (.t 30), none⟩,
  ⟨some 8, .val (.mov (.k (.int .i64 1))), none⟩]
def device_Finish_r3 : List AOper := [
  ⟨some 31, .val (.field 3 (.t 3)), none⟩,
  ⟨some 32, .val (.load1 (.t 31)), none⟩,
  ⟨some 33, .val (.mov (.t 1)), none⟩,
  ⟨some 34, .val (.ixS 4 (.t 32) (.t 33)), none⟩,
  ⟨some 35, .val (.loadA 4 (.t 34)), none⟩,
  ⟨some 9, .alloc 4 [.int .i64 0, .int .i64 0, .int .i64 0, .str []], none⟩,
  ⟨none, .stA true 4 (.t 9) (.t 35), none⟩]
def device_Finish_r4 (F : Nat → Nat) : List AOper := [
  ⟨some 36, .val (.field 3 (.t 3)), none⟩,
  ⟨some 37, .val (.load1 (.t 36)), none⟩,
  ⟨some 38, .val (.mov (.t 1)), none⟩,
  ⟨some 39, .val (.slS 4 (.t 37) none (some (.t 38))), none⟩,
  ⟨some 40, .val (.field 3 (.t 3)), none⟩,
  ⟨some 41, .val (.load1 (.t 40)), none⟩,
  ⟨some 42, .val (.mov (.t 1)), none⟩,
  ⟨some 43, .val (.bin .add true (.t 42) (.k (.int .i64 1))), none⟩,
  ⟨some 44, .val (.slS 4 (.t 41) (some (.t 43)) none), none⟩,
  ⟨some 45, .buildS 1 2 [.nil 4] [(0, (.t 39)), (1, (.t 44))], none⟩,
  ⟨some 46, .call (F 146) [(.t 45)], none⟩,
  ⟨some 47, .val (.field 3 (.t 3)), none⟩,
  ⟨none, .st1 true (.t 47) (.t 46), none⟩]
def device_Finish_r5 : List AOper := [
  ⟨some 48, .val (.mov (.t 2)), none⟩]
def device_Finish_r6 : List AOper := [
  ⟨some 49, .val (.loadA 4 (.t 3)), none⟩,
  ⟨some 50, .val (.loadA 4 (.t 9)), none⟩,
  ⟨none, .stA true 4 (.t 6) (.t 49), none⟩,
  ⟨none, .stA true 4 (.t 7) (.t 50), none⟩,
  ⟨some 8, .val (.mov (.k (.int .i64 8))), none⟩]
def device_Finish_r7 : List AOper := [
  ⟨some 10, .val (.mov (.k (.int .i64 0))), none⟩]
def device_Finish_r8 : List AOper := [
  ⟨some 51, .val (.field 1 (.t 9)), none⟩,
  ⟨some 52, .val (.load1 (.t 51)), none⟩]
def device_Finish_r9 : List AOper := [
  ⟨some 54, .val (.bin .eql false (.t 52) (.k (.int .i64 1))), none⟩,
  ⟨some 53, .val (.mov (.t 54)), none⟩]
def device_Finish_r10 (F : Nat → Nat) : List AOper := [
  ⟨some 56, .val (.field 0 (.t 3)), none⟩,
  ⟨some 57, .val (.loadA 2 (.t 56)), none⟩,
  ⟨some 58, .val (.field 2 (.t 9)), none⟩,
  ⟨some 59, .val (.load1 (.t 58)), none⟩,
  ⟨some 60, .call (F 147) [(.t 59)], none⟩,
  ⟨some 61, .call (F 37) [(.t 57), (.t 60)], none⟩,
  ⟨some 55, .val (.mov (.t 61)), none⟩,
  ⟨some 62, .val (.extr 0 (.t 55)), none⟩,
  ⟨some 63, .val (.extr 1 (.t 55)), none⟩,
  ⟨some 11, .val (.mov (.t 62)), none⟩,
  ⟨some 12, .val (.mov (.t 63)), none⟩]
def device_Finish_r11 (F : Nat → Nat) : List AOper := [
  ⟨some 65, .val (.field 0 (.t 3)), none⟩,
  ⟨some 66, .val (.loadA 2 (.t 65)), none⟩,
  ⟨some 67, .val (.field 2 (.t 9)), none⟩,
  ⟨some 68, .val (.load1 (.t 67)), none⟩,
  ⟨some 69, .call (F 147) [(.t 68)], none⟩,
  ⟨some 70, .val (.bin .add true (.t 69) (.k (.int .i64 1))), none⟩,
  ⟨some 71, .call (F 37) [(.t 66), (.t 70)], none⟩,
  ⟨some 64, .val (.mov (.t 71)), none⟩,
  ⟨some 72, .val (.extr 0 (.t 64)), none⟩,
  ⟨some 73, .val (.extr 1 (.t 64)), none⟩,
  ⟨some 13, .val (.mov (.t 72)), none⟩,
  ⟨some 14, .val (.mov (.t 73)), none⟩]
def device_Finish_r12 : List AOper := [
  ⟨some 74, .val (.mov (.t 11)), none⟩,
  ⟨some 75, .val (.mov (.t 13)), none⟩,
  ⟨some 76, .val (.bin .add false (.t 74) (.t 75)), none⟩,
  ⟨some 77, .val (.field 3 (.t 9)), none⟩,
  ⟨none, .st1 true (.t 77) (.t 76), none⟩]
def device_Finish_r13 : List AOper := [
  ⟨some 79, .val (.bin .eql false (.t 52) (.k (.int .i64 2))), none⟩,
  ⟨some 78, .val (.mov (.t 79)), none⟩]
def device_Finish_r14 (F : Nat → Nat) : List AOper := [
  ⟨some 81, .val (.field 0 (.t 3)), none⟩,
  ⟨some 82, .val (.loadA 2 (.t 81)), none⟩,
  ⟨some 83, .val (.loadA 4 (.t 9)), none⟩,
  ⟨some 84, .call (F 148) [(.t 82), (.t 83)], none⟩,
  ⟨some 80, .val (.mov (.t 84)), none⟩,
  ⟨some 85, .val (.extr 0 (.t 80)), none⟩,
  ⟨some 86, .val (.extr 1 (.t 80)), none⟩,
  ⟨some 87, .val (.field 0 (.t 3)), none⟩,
  ⟨none, .stA true 2 (.t 87) (.t 85), none⟩,
  ⟨some 10, .val (.mov (.t 86)), none⟩]
def device_Finish_r15 : List AOper := [
  ⟨some 89, .val (.bin .eql false (.t 52) (.k (.int .i64 3))), none⟩,
  ⟨some 88, .val (.mov (.t 89)), none⟩]
def device_Finish_r16 (F : Nat → Nat) : List AOper := [
  ⟨some 90, .val (.field 0 (.t 3)), none⟩,
  ⟨some 91, .val (.loadA 2 (.t 90)), none⟩,
  ⟨some 92, .call (F 41) [(.t 91)], none⟩,
  ⟨some 93, .val (.field 0 (.t 3)), none⟩,
  ⟨none, .stA true 2 (.t 93) (.t 92), none⟩]
def device_Finish_r17 : List AOper := [
  ⟨some 94, .val (.loadA 4 (.t 3)), none⟩,
  ⟨some 95, .val (.loadA 4 (.t 9)), none⟩,
  ⟨some 96, .val (.mov (.t 10)), none⟩,
  ⟨none, .stA true 4 (.t 6) (.t 94), none⟩,
  ⟨none, .stA true 4 (.t 7) (.t 95), none⟩,
  ⟨some 8, .val (.mov (.t 96)), none⟩]
def device_Finish_c (F : Nat → Nat) : ACode :=
  (.seq
    (.reg device_Finish_r0 (some ([1, 2, 3, 6, 7], [3, 6, 7, 45, 1046])))
    (.seq
      (.seq
        (.reg (device_Finish_r1 F) (some ([1, 2, 3, 6, 7, 28], [3, 6, 7, 45, 1046])))
        (.cond (.t 28)
          (.seq
            (.reg device_Finish_r2 (some ([6, 7, 8], [6, 7, 45, 1046])))
            .ret)
          .skip))
      (.seq
        (.reg device_Finish_r3 (some ([1, 2, 3, 6, 7, 9], [3, 6, 7, 9, 45, 1046])))
        (.seq
          (.regD (device_Finish_r4 F) [] (some ([2, 3, 6, 7, 9], [3, 6, 7, 9, 45, 1046])))
          (.seq
            (.seq
              (.reg device_Finish_r5 (some ([3, 6, 7, 9, 48], [3, 6, 7, 9, 45, 1046])))
              (.cond (.t 48)
                (.seq
                  (.regD device_Finish_r6 [(1, 2)] (some ([6, 7, 8], [6, 7, 45, 1046])))
                  .ret)
                .skip))
            (.seq
              (.reg device_Finish_r7 (some ([3, 6, 7, 9, 10], [3, 6, 7, 9, 45, 1046])))
              (.seq
                (.seq
                  (.reg device_Finish_r8 (some ([3, 6, 7, 9, 10, 52], [3, 6, 7, 9, 45, 1046])))
                  (.block 0
                    (.seq
                      (.reg device_Finish_r9 (some ([3, 6, 7, 9, 10, 52, 53], [3, 6, 7, 9, 45, 1046])))
                      (.cond (.t 53)
                        (.seq
                          (.regD (device_Finish_r10 F) [(0, 4), (1, 4)] (some ([3, 6, 7, 9, 10, 11], [3, 6, 7, 9, 45, 1046])))
                          (.seq
                            (.regD (device_Finish_r11 F) [(0, 4), (1, 4)] (some ([3, 6, 7, 9, 10, 11, 13], [3, 6, 7, 9, 45, 1046])))
                            (.reg device_Finish_r12 (some ([3, 6, 7, 9, 10], [3, 6, 7, 9, 45, 1046])))))
                        (.seq
                          (.reg device_Finish_r13 (some ([3, 6, 7, 9, 10, 52, 78], [3, 6, 7, 9, 45, 1046])))
                          (.cond (.t 78)
                            (.reg (device_Finish_r14 F) (some ([3, 6, 7, 9, 10], [3, 6, 7, 9, 45, 1046])))
                            (.seq
                              (.reg device_Finish_r15 (some ([3, 6, 7, 9, 10, 88], [3, 6, 7, 9, 45, 1046])))
                              (.cond (.t 88)
                                (.reg (device_Finish_r16 F) (some ([3, 6, 7, 9, 10], [3, 6, 7, 9, 45, 1046])))
                                .skip))))))))
                (.seq
                  (.regD device_Finish_r17 [(1, 3), (2, 3), (2, 4)] (some ([6, 7, 8], [6, 7, 45, 1046])))
                  .ret))))))))
def device_Finish_k (P : Program) (F : Nat → Nat) : Prop := chkFn P (F 149) 3 (device_Finish_c F) [.loadA 4 (.t 6), .loadA 4 (.t 7), 8] = true
def ref04_Finish_r0 : List AOper := [
  ⟨some 3, .box 4 (.t 0), none⟩,
  ⟨some 6, .alloc 4 [.nil 1, .nil 2, .int .i64 0, .nil 4], none⟩,
  ⟨some 7, .alloc 4 [.int .i64 0, .int .i64 0, .int .i64 0, .str []], none⟩,
  ⟨some 8, .val (.mov (.k (.int .i64 0))), none⟩]
def ref04_Finish_r1 (F : Nat → Nat) : List AOper := [
  ⟨some 15, .val (.loadA 4 (.t 3)), none⟩,
  ⟨some 16, .call (F 171) [(.t 15)], none⟩,
  ⟨some 17, .val (.not (.t 16)), none⟩,
  ⟨some 18, .val (.mov (.t 17)), none⟩,
  ⟨some 19, .val (.mov (.t 1)), some (18, false)⟩,
  ⟨some 20, .val (.bin .lss false (.t 19) (.k (.int .i64 0))), some (18, false)⟩,
  ⟨some 21, .val (.por (.t 18) (.t 20)), none⟩,
  ⟨some 22, .val (.mov (.t 21)), none⟩,
  ⟨some 23, .val (.mov (.t 1)), some (22, false)⟩,
  ⟨some 24, .val (.field 3 (.t 3)), some (22, false)⟩,
  ⟨some 25, .val (.load1 (.t 24)), some (22, false)⟩,
  ⟨some 26, .val (.lenS (.t 25)), some (22, false)⟩,
  ⟨some 27, .val (.bin .geq false (.t 23) (.t 26)), some (22, false)⟩,
  ⟨some 28, .val (.por (.t 22) (.t 27)), none⟩]
def ref04_Finish_r2 : List AOper := [
  ⟨some 29, .val (.loadA 4 (.t 3)), none⟩,
  ⟨some 30, .val (.build 4 [.int .i64 0, .int .i64 0, .int .i64 0, .str []] []), none⟩,
  ⟨none, .stA true 4 (.t 6) (.t 29), none⟩,
  ⟨none, .stA true 4 (.t 7) (.t 30), none⟩,
  ⟨some 8, .val (.mov (.k (.int .i64 1))), none⟩]
def ref04_Finish_r3 : List AOper := [
  ⟨some 31, .val (.field 0 (.t 3)), none⟩,
  ⟨some 32, .val (.loadA 2 (.t 31)), none⟩,
  ⟨some 33, .val (.field 2 (.t 3)), none⟩,
  ⟨some 34, .val (.load1 (.t 33)), none⟩,
  ⟨some 35, .val (.build 4 [.nil 1, .nil 2, .int .i64 0, .nil 4] [(0, 2, (.t 32)), (2, 1, (.t 34))]), none⟩,
  ⟨some 9, .alloc 4 [.nil 1, .nil 2, .int .i64 0, .nil 4], none⟩,
  ⟨none, .stA true 4 (.t 9) (.t 35), none⟩]
def ref04_Finish_r4 : List AOper := [
  ⟨some 10, .val (.mov (.k (.int .i64 0))), none⟩]
def ref04_Finish_r5 : List AOper := [
  ⟨some 36, .val (.mov (.t 10)), none⟩,
  ⟨some 37, .val (.field 3 (.t 3)), none⟩,
  ⟨some 38, .val (.load1 (.t 37)), none⟩,
  ⟨some 39, .val (.lenS (.t 38)), none⟩,
  ⟨some 40, .val (.bin .lss false (.t 36) (.t 39)), none⟩]
def ref04_Finish_r7 : List AOper := [
  ⟨some 43, .val (.mov (.t 10)), none⟩,
  ⟨some 44, .val (.mov (.t 1)), none⟩,
  ⟨some 45, .val (.bin .neq false (.t 43) (.t 44)), none⟩]
def ref04_Finish_r8 : List AOper := [
  ⟨some 46, .val (.field 3 (.t 9)), none⟩,
  ⟨some 47, .val (.load1 (.t 46)), none⟩,
  ⟨some 48, .val (.field 3 (.t 3)), none⟩,
  ⟨some 49, .val (.load1 (.t 48)), none⟩,
  ⟨some 50, .val (.mov (.t 10)), none⟩,
  ⟨some 51, .val (.ixS 4 (.t 49) (.t 50)), none⟩,
  ⟨some 52, .val (.loadA 4 (.t 51)), none⟩,
  ⟨some 53, .buildS 4 1 [.int .i64 0, .int .i64 0, .int .i64 0, .str []] [(0, (.t 52))], none⟩,
  ⟨some 54, .app 4 40 (.t 47) (.t 53), none⟩,
  ⟨some 55, .val (.field 3 (.t 9)), none⟩,
  ⟨none, .st1 true (.t 55) (.t 54), none⟩]
def ref04_Finish_r6 : List AOper := [
  ⟨some 41, .val (.mov (.t 10)), none⟩,
  ⟨some 42, .val (.bin .add true (.t 41) (.k (.int .i64 1))), none⟩,
  ⟨some 10, .val (.mov (.t 42)), none⟩]
def ref04_Finish_r9 : List AOper := [
  ⟨some 56, .val (.field 3 (.t 3)), none⟩,
  ⟨some 57, .val (.load1 (.t 56)), none⟩,
  ⟨some 58, .val (.mov (.t 1)), none⟩,
  ⟨some 59, .val (.ixS 4 (.t 57) (.t 58)), none⟩,
  ⟨some 60, .val (.loadA 4 (.t 59)), none⟩,
  ⟨some 11, .alloc 4 [.int .i64 0, .int .i64 0, .int .i64 0, .str []], none⟩,
  ⟨none, .stA true 4 (.t 11) (.t 60), none⟩]
def ref04_Finish_r10 : List AOper := [
  ⟨some 61, .val (.mov (.t 2)), none⟩]
def ref04_Finish_r11 : List AOper := [
  ⟨some 62, .val (.loadA 4 (.t 9)), none⟩,
  ⟨some 63, .val (.loadA 4 (.t 11)), none⟩,
  ⟨none, .stA true 4 (.t 6) (.t 62), none⟩,
  ⟨none, .stA true 4 (.t 7) (.t 63), none⟩,
  ⟨some 8, .val (.mov (.k (.int .i64 8))), none⟩]
def ref04_Finish_r12 : List AOper := [
  ⟨some 64, .val (.field 2 (.t 11)), none⟩,
  ⟨some 65, .val (.load1 (.t 64)), none⟩,
  ⟨some 66, .val (.bin .mul true (.k (.int .i64 2)) (.t 65)), none⟩,
  ⟨some 67, .val (.bin .add true (.t 66) (.k (.int .i64 1))), none⟩,
  ⟨some 12, .val (.mov (.t 67)), none⟩]
def ref04_Finish_r13 : List AOper := [
  ⟨some 68, .val (.field 1 (.t 11)), none⟩,
  ⟨some 69, .val (.load1 (.t 68)), none⟩]
def ref04_Finish_r15 : List AOper := [
  ⟨some 75, .val (.bin .eql false (.t 69) (.k (.int .i64 1))), none⟩,
  ⟨some 74, .val (.mov (.t 75)), none⟩]
def ref04_Finish_r16 (F : Nat → Nat) : List AOper := [
  ⟨some 76, .val (.field 0 (.t 3)), none⟩,
  ⟨some 77, .val (.loadA 2 (.t 76)), none⟩,
  ⟨some 78, .val (.mov (.t 12)), none⟩,
  ⟨some 79, .call (F 44) [(.t 77), (.t 78)], none⟩,
  ⟨some 80, .val (.field 0 (.t 3)), none⟩,
  ⟨some 81, .val (.loadA 2 (.t 80)), none⟩,
  ⟨some 82, .val (.mov (.t 12)), none⟩,
  ⟨some 83, .val (.bin .add true (.t 82) (.k (.int .i64 1))), none⟩,
  ⟨some 84, .call (F 44) [(.t 81), (.t 83)], none⟩,
  ⟨some 85, .val (.bin .add false (.t 79) (.t 84)), none⟩,
  ⟨some 86, .val (.field 3 (.t 11)), none⟩,
  ⟨none, .st1 true (.t 86) (.t 85), none⟩]
def ref04_Finish_r17 : List AOper := [
  ⟨some 88, .val (.bin .eql false (.t 69) (.k (.int .i64 2))), none⟩,
  ⟨some 87, .val (.mov (.t 88)), none⟩]
def ref04_Finish_r18 : List AOper := [
  ⟨some 13, .val (.mov (.k (.nil 2))), none⟩]
def ref04_Finish_r19 : List AOper := [
  ⟨some 89, .val (.mov (.t 13)), none⟩,
  ⟨some 90, .val (.field 0 (.t 3)), none⟩,
  ⟨some 91, .val (.field 1 (.t 90)), none⟩,
  ⟨some 92, .val (.load1 (.t 91)), none⟩,
  ⟨some 93, .app 2 24 (.t 89) (.t 92), none⟩,
  ⟨some 13, .val (.mov (.t 93)), none⟩]
def ref04_Finish_r20 : List AOper := [
  ⟨some 94, .val (.mov (.t 13)), none⟩,
  ⟨some 95, .val (.lenS (.t 94)), none⟩,
  ⟨some 96, .val (.bin .lss false (.t 95) (.k (.int .i64 200))), none⟩]
def ref04_Finish_r21 : List AOper := [
  ⟨some 97, .val (.mov (.t 13)), none⟩,
  ⟨some 98, .val (.mov (.t 12)), none⟩,
  ⟨some 99, .val (.field 3 (.t 11)), none⟩,
  ⟨some 100, .val (.load1 (.t 99)), none⟩,
  ⟨some 101, .val (.slT (.t 100) none (some (.k (.int .i64 16)))), none⟩,
  ⟨some 102, .val (.build 2 [.int .i64 0, .str []] [(0, 1, (.t 98)), (1, 1, (.t 101))]), none⟩,
  ⟨some 103, .buildS 2 1 [.int .i64 0, .str []] [(0, (.t 102))], none⟩,
  ⟨some 104, .app 2 24 (.t 97) (.t 103), none⟩,
  ⟨some 13, .val (.mov (.t 104)), none⟩]
def ref04_Finish_r22 : List AOper := [
  ⟨some 105, .val (.loadA 4 (.t 9)), none⟩,
  ⟨some 106, .val (.loadA 4 (.t 11)), none⟩,
  ⟨none, .stA true 4 (.t 6) (.t 105), none⟩,
  ⟨none, .stA true 4 (.t 7) (.t 106), none⟩,
  ⟨some 8, .val (.mov (.k (.int .i64 7))), none⟩]
def ref04_Finish_r23 : List AOper := [
  ⟨some 107, .val (.mov (.t 13)), none⟩,
  ⟨some 108, .val (.lenS (.t 107)), none⟩,
  ⟨some 109, .val (.bin .eql false (.t 108) (.k (.int .i64 200))), none⟩,
  ⟨some 14, .val (.mov (.t 109)), none⟩]
def ref04_Finish_r24 : List AOper := [
  ⟨some 110, .val (.mov (.t 14)), none⟩,
  ⟨some 111, .val (.not (.t 110)), none⟩]
def ref04_Finish_r25 : List AOper := [
  ⟨some 112, .val (.mov (.t 13)), none⟩,
  ⟨some 113, .val (.mov (.t 12)), none⟩,
  ⟨some 114, .val (.bin .add true (.t 113) (.k (.int .i64 1))), none⟩,
  ⟨some 115, .val (.field 3 (.t 11)), none⟩,
  ⟨some 116, .val (.load1 (.t 115)), none⟩,
  ⟨some 117, .val (.slT (.t 116) (some (.k (.int .i64 16))) none), none⟩,
  ⟨some 118, .val (.build 2 [.int .i64 0, .str []] [(0, 1, (.t 114)), (1, 1, (.t 117))]), none⟩,
  ⟨some 119, .buildS 2 1 [.int .i64 0, .str []] [(0, (.t 118))], none⟩,
  ⟨some 120, .app 2 24 (.t 112) (.t 119), none⟩,
  ⟨some 13, .val (.mov (.t 120)), none⟩]
def ref04_Finish_r26 : List AOper := [
  ⟨some 121, .val (.field 0 (.t 3)), none⟩,
  ⟨some 122, .val (.field 0 (.t 121)), none⟩,
  ⟨some 123, .val (.load1 (.t 122)), none⟩,
  ⟨some 124, .val (.mov (.t 13)), none⟩,
  ⟨some 125, .val (.build 2 [.nil 1, .nil 2] [(0, 1, (.t 123)), (1, 1, (.t 124))]), none⟩,
  ⟨some 126, .val (.field 0 (.t 9)), none⟩,
  ⟨none, .stA true 2 (.t 126) (.t 125), none⟩]
def ref04_Finish_r27 : List AOper := [
  ⟨some 127, .val (.mov (.t 14)), none⟩]
def ref04_Finish_r28 : List AOper := [
  ⟨some 128, .val (.loadA 4 (.t 9)), none⟩,
  ⟨some 129, .val (.loadA 4 (.t 11)), none⟩,
  ⟨none, .stA true 4 (.t 6) (.t 128), none⟩,
  ⟨none, .stA true 4 (.t 7) (.t 129), none⟩,
  ⟨some 8, .val (.mov (.k (.int .i64 7))), none⟩]
def ref04_Finish_r14 (F : Nat → Nat) : List AOper := [
  ⟨some 70, .val (.field 0 (.t 3)), none⟩,
  ⟨some 71, .val (.loadA 2 (.t 70)), none⟩,
  ⟨some 72, .call (F 42) [(.t 71)], none⟩,
  ⟨some 73, .val (.field 0 (.t 9)), none⟩,
  ⟨none, .stA true 2 (.t 73) (.t 72), none⟩]
def ref04_Finish_r29 : List AOper := [
  ⟨some 130, .val (.loadA 4 (.t 9)), none⟩,
  ⟨some 131, .val (.loadA 4 (.t 11)), none⟩,
  ⟨none, .stA true 4 (.t 6) (.t 130), none⟩,
  ⟨none, .stA true 4 (.t 7) (.t 131), none⟩,
  ⟨some 8, .val (.mov (.k (.int .i64 0))), none⟩]
def ref04_Finish_c (F : Nat → Nat) : ACode :=
  (.seq
    (.reg ref04_Finish_r0 (some ([1, 2, 3, 6, 7], [3, 6, 7, 53, 54, 93, 103, 104, 119, 120])))
    (.seq
      (.seq
        (.reg (ref04_Finish_r1 F) (some ([1, 2, 3, 6, 7, 28], [3, 6, 7, 53, 54, 93, 103, 104, 119, 120])))
        (.cond (.t 28)
          (.seq
            (.reg ref04_Finish_r2 (some ([6, 7, 8], [6, 7, 53, 54, 93, 103, 104, 119, 120])))
            .ret)
          .skip))
      (.seq
        (.reg ref04_Finish_r3 (some ([1, 2, 3, 6, 7, 9], [3, 6, 7, 9, 53, 54, 93, 103, 104, 119, 120])))
        (.seq
          (.seq
            (.reg ref04_Finish_r4 (some ([1, 2, 3, 6, 7, 9, 10], [3, 6, 7, 9, 53, 54, 93, 103, 104, 119, 120])))
            (.block 0
              (.loop
                (.seq
                  (.seq
                    (.reg ref04_Finish_r5 (some ([1, 2, 3, 6, 7, 9, 10, 40], [3, 6, 7, 9, 53, 54, 93, 103, 104, 119, 120])))
                    (.cond (.t 40)
                      .skip
                      (.exit 0)))
                  (.seq
                    (.block 1
                      (.seq
                        (.reg ref04_Finish_r7 (some ([1, 2, 3, 6, 7, 9, 10, 45], [3, 6, 7, 9, 53, 54, 93, 103, 104, 119, 120])))
                        (.cond (.t 45)
                          (.regD ref04_Finish_r8 [(0, 7), (1, 7)] (some ([1, 2, 3, 6, 7, 9, 10], [3, 6, 7, 9, 53, 54, 93, 103, 104, 119, 120])))
                          .skip)))
                    (.reg ref04_Finish_r6 (some ([1, 2, 3, 6, 7, 9, 10], [3, 6, 7, 9, 53, 54, 93, 103, 104, 119, 120]))))))))
          (.seq
            (.reg ref04_Finish_r9 (some ([2, 3, 6, 7, 9, 11], [3, 6, 7, 9, 11, 53, 54, 93, 103, 104, 119, 120])))
            (.seq
              (.seq
                (.reg ref04_Finish_r10 (some ([3, 6, 7, 9, 11, 61], [3, 6, 7, 9, 11, 53, 54, 93, 103, 104, 119, 120])))
                (.cond (.t 61)
                  (.seq
                    (.regD ref04_Finish_r11 [(1, 2)] (some ([6, 7, 8], [6, 7, 53, 54, 93, 103, 104, 119, 120])))
                    .ret)
                  .skip))
              (.seq
                (.reg ref04_Finish_r12 (some ([3, 6, 7, 9, 11, 12], [3, 6, 7, 9, 11, 53, 54, 93, 103, 104, 119, 120])))
                (.seq
                  (.seq
                    (.reg ref04_Finish_r13 (some ([3, 6, 7, 9, 11, 12, 69], [3, 6, 7, 9, 11, 53, 54, 93, 103, 104, 119, 120])))
                    (.block 2
                      (.seq
                        (.reg ref04_Finish_r15 (some ([3, 6, 7, 9, 11, 12, 69, 74], [3, 6, 7, 9, 11, 53, 54, 93, 103, 104, 119, 120])))
                        (.cond (.t 74)
                          (.regD (ref04_Finish_r16 F) [(3, 4), (3, 5), (3, 6), (3, 7)] (some ([6, 7, 9, 11], [6, 7, 9, 11, 53, 54, 93, 103, 104, 119, 120])))
                          (.seq
                            (.reg ref04_Finish_r17 (some ([3, 6, 7, 9, 11, 12, 87], [3, 6, 7, 9, 11, 53, 54, 93, 103, 104, 119, 120])))
                            (.cond (.t 87)
                              (.seq
                                (.reg ref04_Finish_r18 (some ([3, 6, 7, 9, 11, 12, 13], [3, 6, 7, 9, 11, 53, 54, 93, 103, 104, 119, 120])))
                                (.seq
                                  (.reg ref04_Finish_r19 (some ([3, 6, 7, 9, 11, 12, 13], [3, 6, 7, 9, 11, 53, 54, 93, 103, 104, 119, 120])))
                                  (.seq
                                    (.seq
                                      (.reg ref04_Finish_r20 (some ([3, 6, 7, 9, 11, 12, 13, 96], [3, 6, 7, 9, 11, 53, 54, 93, 103, 104, 119, 120])))
                                      (.cond (.t 96)
                                        (.reg ref04_Finish_r21 (some ([3, 6, 7, 9, 11, 12, 13], [3, 6, 7, 9, 11, 53, 54, 93, 103, 104, 119, 120])))
                                        (.seq
                                          (.regD ref04_Finish_r22 [(1, 2)] (some ([6, 7, 8], [6, 7, 53, 54, 93, 103, 104, 119, 120])))
                                          .ret)))
                                    (.seq
                                      (.reg ref04_Finish_r23 (some ([3, 6, 7, 9, 11, 12, 13, 14], [3, 6, 7, 9, 11, 53, 54, 93, 103, 104, 119, 120])))
                                      (.seq
                                        (.seq
                                          (.reg ref04_Finish_r24 (some ([3, 6, 7, 9, 11, 12, 13, 14, 111], [3, 6, 7, 9, 11, 53, 54, 93, 103, 104, 119, 120])))
                                          (.cond (.t 111)
                                            (.reg ref04_Finish_r25 (some ([3, 6, 7, 9, 11, 13, 14], [3, 6, 7, 9, 11, 53, 54, 93, 103, 104, 119, 120])))
                                            .skip))
                                        (.seq
                                          (.reg ref04_Finish_r26 (some ([6, 7, 9, 11, 14], [6, 7, 9, 11, 53, 54, 93, 103, 104, 119, 120])))
                                          (.seq
                                            (.reg ref04_Finish_r27 (some ([6, 7, 9, 11, 127], [6, 7, 9, 11, 53, 54, 93, 103, 104, 119, 120])))
                                            (.cond (.t 127)
                                              (.seq
                                                (.regD ref04_Finish_r28 [(1, 2)] (some ([6, 7, 8], [6, 7, 53, 54, 93, 103, 104, 119, 120])))
                                                .ret)
                                              .skip))))))))
                              (.reg (ref04_Finish_r14 F) (some ([6, 7, 9, 11], [6, 7, 9, 11, 53, 54, 93, 103, 104, 119, 120])))))))))
                  (.seq
                    (.regD ref04_Finish_r29 [(1, 2)] (some ([6, 7, 8], [6, 7, 53, 54, 93, 103, 104, 119, 120])))
                    .ret)))))))))
def ref04_Finish_k (P : Program) (F : Nat → Nat) : Prop := chkFn P (F 173) 3 (ref04_Finish_c F) [.loadA 4 (.t 6), .loadA 4 (.t 7), 8] = true
def device_Crash_r0 : List AOper := [
  ⟨some 2, .box 4 (.t 0), none⟩,
  ⟨some 4, .alloc 4 [.nil 1, .nil 2, .int .i64 0, .nil 4], none⟩]
def device_Crash_r1 (F : Nat → Nat) : List AOper := [
  ⟨some 5, .val (.loadA 4 (.t 2)), none⟩,
  ⟨some 6, .call (F 145) [(.t 5)], none⟩,
  ⟨some 7, .val (.not (.t 6)), none⟩]
def device_Crash_r2 : List AOper := [
  ⟨some 8, .val (.loadA 4 (.t 2)), none⟩,
  ⟨none, .stA true 4 (.t 4) (.t 8), none⟩]
def device_Crash_r3 (F : Nat → Nat) : List AOper := [
  ⟨some 9, .val (.field 0 (.t 2)), none⟩,
  ⟨some 10, .val (.loadA 2 (.t 9)), none⟩,
  ⟨some 11, .val (.mov (.t 1)), none⟩,
  ⟨some 12, .call (F 33) [(.t 10), (.t 11)], none⟩,
  ⟨some 13, .val (.field 0 (.t 2)), none⟩,
  ⟨none, .stA true 2 (.t 13) (.t 12), none⟩]
def device_Crash_r4 : List AOper := [
  ⟨some 14, .val (.field 3 (.t 2)), none⟩,
  ⟨none, .st1 true (.t 14) (.k (.nil 4)), none⟩]
def device_Crash_r5 : List AOper := [
  ⟨some 15, .val (.loadA 4 (.t 2)), none⟩,
  ⟨none, .stA true 4 (.t 4) (.t 15), none⟩]
def device_Crash_c (F : Nat → Nat) : ACode :=
  (.seq
    (.reg device_Crash_r0 (some ([1, 2, 4], [2, 4])))
    (.seq
      (.seq
        (.reg (device_Crash_r1 F) (some ([1, 2, 4, 7], [2, 4])))
        (.cond (.t 7)
          (.seq
            (.reg device_Crash_r2 (some ([4], [4])))
            .ret)
          .skip))
      (.seq
        (.reg (device_Crash_r3 F) (some ([2, 4], [2, 4])))
        (.seq
          (.reg device_Crash_r4 (some ([2, 4], [2, 4])))
          (.seq
            (.reg device_Crash_r5 (some ([4], [4])))
            .ret)))))
def device_Crash_k (P : Program) (F : Nat → Nat) : Prop := chkFn P (F 174) 2 (device_Crash_c F) [.loadA 4 (.t 4)] = true
def device_request_r0 : List AOper := [
  ⟨some 6, .val (.mov (.k (.bool false))), none⟩]
def device_request_r1 : List AOper := [
  ⟨some 7, .val (.mov (.t 0)), none⟩]
def device_request_r2 : List AOper := [
  ⟨some 9, .val (.bin .eql false (.t 7) (.k (.int .i64 1))), none⟩,
  ⟨some 8, .val (.mov (.t 9)), none⟩]
def device_request_r3 : List AOper := [
  ⟨some 10, .val (.mov (.t 1)), none⟩,
  ⟨some 11, .val (.bin .geq false (.t 10) (.k (.int .i64 1))), none⟩,
  ⟨some 12, .val (.mov (.t 11)), none⟩,
  ⟨some 13, .val (.mov (.t 1)), some (12, true)⟩,
  ⟨some 14, .val (.bin .leq false (.t 13) (.k (.int .i64 16))), some (12, true)⟩,
  ⟨some 15, .val (.pand (.t 12) (.t 14)), none⟩,
  ⟨some 16, .val (.mov (.t 15)), none⟩,
  ⟨some 17, .val (.mov (.t 2)), some (16, true)⟩,
  ⟨some 18, .val (.bin .eql false (.t 17) (.k (.str []))), some (16, true)⟩,
  ⟨some 19, .val (.pand (.t 16) (.t 18)), none⟩,
  ⟨some 6, .val (.mov (.t 19)), none⟩]
def device_request_r4 : List AOper := [
  ⟨some 21, .val (.bin .eql false (.t 7) (.k (.int .i64 2))), none⟩,
  ⟨some 20, .val (.mov (.t 21)), none⟩]
def device_request_r5 : List AOper := [
  ⟨some 22, .val (.mov (.t 1)), none⟩,
  ⟨some 23, .val (.bin .geq false (.t 22) (.k (.int .i64 1))), none⟩,
  ⟨some 24, .val (.mov (.t 23)), none⟩,
  ⟨some 25, .val (.mov (.t 1)), some (24, true)⟩,
  ⟨some 26, .val (.bin .leq false (.t 25) (.k (.int .i64 16))), some (24, true)⟩,
  ⟨some 27, .val (.pand (.t 24) (.t 26)), none⟩,
  ⟨some 28, .val (.mov (.t 27)), none⟩,
  ⟨some 29, .val (.mov (.t 2)), some (28, true)⟩,
  ⟨some 30, .val (.lenT (.t 29)), some (28, true)⟩,
  ⟨some 31, .val (.bin .eql false (.t 30) (.k (.int .i64 32))), some (28, true)⟩,
  ⟨some 32, .val (.pand (.t 28) (.t 31)), none⟩,
  ⟨some 6, .val (.mov (.t 32)), none⟩]
def device_request_r6 : List AOper := [
  ⟨some 34, .val (.bin .eql false (.t 7) (.k (.int .i64 3))), none⟩,
  ⟨some 33, .val (.mov (.t 34)), none⟩]
def device_request_r7 : List AOper := [
  ⟨some 35, .val (.mov (.t 1)), none⟩,
  ⟨some 36, .val (.bin .eql false (.t 35) (.k (.int .i64 0))), none⟩,
  ⟨some 37, .val (.mov (.t 36)), none⟩,
  ⟨some 38, .val (.mov (.t 2)), some (37, true)⟩,
  ⟨some 39, .val (.bin .eql false (.t 38) (.k (.str []))), some (37, true)⟩,
  ⟨some 40, .val (.pand (.t 37) (.t 39)), none⟩,
  ⟨some 6, .val (.mov (.t 40)), none⟩]
def device_request_r8 : List AOper := [
  ⟨some 6, .val (.mov (.k (.bool false))), none⟩]
def device_request_c : ACode :=
  (.seq
    (.reg device_request_r0 (some ([0, 1, 2], [])))
    (.seq
      (.seq
        (.reg device_request_r1 (some ([1, 2, 7], [])))
        (.block 0
          (.seq
            (.reg device_request_r2 (some ([1, 2, 7, 8], [])))
            (.cond (.t 8)
              (.seq
                (.reg device_request_r3 (some ([6], [])))
                .ret)
              (.seq
                (.reg device_request_r4 (some ([1, 2, 7, 20], [])))
                (.cond (.t 20)
                  (.seq
                    (.reg device_request_r5 (some ([6], [])))
                    .ret)
                  (.seq
                    (.reg device_request_r6 (some ([1, 2, 33], [])))
                    (.cond (.t 33)
                      (.seq
                        (.reg device_request_r7 (some ([6], [])))
                        .ret)
                      .skip))))))))
      (.seq
        (.reg device_request_r8 (some ([6], [])))
        .ret)))
def device_request_k (P : Program) (F : Nat → Nat) : Prop := chkFn P (F 188) 3 (device_request_c) [6] = true
def sl_Clone_device_Request_r0 : List AOper := [
  ⟨some 2, .val (.mov (.k (.nil 4))), none⟩]
def sl_Clone_device_Request_r1 : List AOper := [
  ⟨some 3, .val (.mov (.t 0)), none⟩,
  ⟨some 4, .val (.nilS (.t 3)), none⟩]
def sl_Clone_device_Request_r2 : List AOper := [
  ⟨some 2, .val (.mov (.k (.nil 4))), none⟩]
def sl_Clone_device_Request_r3 : List AOper := [
  ⟨some 5, .buildS 4 0 [.int .i64 0, .int .i64 0, .int .i64 0, .str []] [], none⟩,
  ⟨some 6, .val (.mov (.t 0)), none⟩,
  ⟨some 7, .app 4 40 (.t 5) (.t 6), none⟩,
  ⟨some 2, .val (.mov (.t 7)), none⟩]
def sl_Clone_device_Request_c : ACode :=
  (.seq
    (.reg sl_Clone_device_Request_r0 (some ([0], [5, 7])))
    (.seq
      (.seq
        (.reg sl_Clone_device_Request_r1 (some ([0, 4], [5, 7])))
        (.cond (.t 4)
          (.seq
            (.reg sl_Clone_device_Request_r2 (some ([2], [5, 7])))
            .ret)
          .skip))
      (.seq
        (.reg sl_Clone_device_Request_r3 (some ([2], [5, 7])))
        .ret)))
def sl_Clone_device_Request_k (P : Program) (F : Nat → Nat) : Prop := chkFn P (F 189) 1 (sl_Clone_device_Request_c) [2] = true
def ref04_May_r0 : List AOper := [
  ⟨some 6, .val (.mov (.k (.bool false))), none⟩]
def ref04_May_r1 : List AOper := [
  ⟨some 7, .val (.mov (.t 0)), none⟩,
  ⟨some 8, .val (.bin .eql false (.t 7) (.k (.int .i64 3))), none⟩]
def ref04_May_r2 : List AOper := [
  ⟨some 9, .val (.mov (.t 1)), none⟩,
  ⟨some 10, .val (.bin .eql false (.t 9) (.k (.int .i64 0))), none⟩,
  ⟨some 11, .val (.mov (.t 10)), none⟩,
  ⟨some 12, .val (.mov (.t 2)), some (11, true)⟩,
  ⟨some 13, .val (.bin .eql false (.t 12) (.k (.str []))), some (11, true)⟩,
  ⟨some 14, .val (.pand (.t 11) (.t 13)), none⟩,
  ⟨some 6, .val (.mov (.t 14)), none⟩]
def ref04_May_r3 : List AOper := [
  ⟨some 15, .val (.mov (.t 0)), none⟩,
  ⟨some 16, .val (.bin .neq false (.t 15) (.k (.int .i64 1))), none⟩,
  ⟨some 17, .val (.mov (.t 16)), none⟩,
  ⟨some 18, .val (.mov (.t 0)), some (17, true)⟩,
  ⟨some 19, .val (.bin .neq false (.t 18) (.k (.int .i64 2))), some (17, true)⟩,
  ⟨some 20, .val (.pand (.t 17) (.t 19)), none⟩,
  ⟨some 21, .val (.mov (.t 20)), none⟩,
  ⟨some 22, .val (.mov (.t 1)), some (21, false)⟩,
  ⟨some 23, .val (.bin .lss false (.t 22) (.k (.int .i64 1))), some (21, false)⟩,
  ⟨some 24, .val (.por (.t 21) (.t 23)), none⟩,
  ⟨some 25, .val (.mov (.t 24)), none⟩,
  ⟨some 26, .val (.mov (.t 1)), some (25, false)⟩,
  ⟨some 27, .val (.bin .gtr false (.t 26) (.k (.int .i64 16))), some (25, false)⟩,
  ⟨some 28, .val (.por (.t 25) (.t 27)), none⟩]
def ref04_May_r4 : List AOper := [
  ⟨some 6, .val (.mov (.k (.bool false))), none⟩]
def ref04_May_r5 : List AOper := [
  ⟨some 29, .val (.mov (.t 0)), none⟩,
  ⟨some 30, .val (.bin .eql false (.t 29) (.k (.int .i64 1))), none⟩,
  ⟨some 31, .val (.mov (.t 30)), none⟩,
  ⟨some 32, .val (.mov (.t 2)), some (31, true)⟩,
  ⟨some 33, .val (.lenT (.t 32)), some (31, true)⟩,
  ⟨some 34, .val (.bin .eql false (.t 33) (.k (.int .i64 0))), some (31, true)⟩,
  ⟨some 35, .val (.pand (.t 31) (.t 34)), none⟩,
  ⟨some 36, .val (.mov (.t 35)), none⟩,
  ⟨some 37, .val (.mov (.t 0)), some (36, false)⟩,
  ⟨some 38, .val (.bin .eql false (.t 37) (.k (.int .i64 2))), some (36, false)⟩,
  ⟨some 39, .val (.mov (.t 38)), some (36, false)⟩,
  ⟨some 40, .val (.mov (.t 2)), some (39, true)⟩,
  ⟨some 41, .val (.lenT (.t 40)), some (39, true)⟩,
  ⟨some 42, .val (.bin .eql false (.t 41) (.k (.int .i64 32))), some (39, true)⟩,
  ⟨some 43, .val (.pand (.t 39) (.t 42)), some (36, false)⟩,
  ⟨some 44, .val (.por (.t 36) (.t 43)), none⟩,
  ⟨some 6, .val (.mov (.t 44)), none⟩]
def ref04_May_c : ACode :=
  (.seq
    (.reg ref04_May_r0 (some ([0, 1, 2], [])))
    (.seq
      (.seq
        (.reg ref04_May_r1 (some ([0, 1, 2, 8], [])))
        (.cond (.t 8)
          (.seq
            (.reg ref04_May_r2 (some ([6], [])))
            .ret)
          .skip))
      (.seq
        (.seq
          (.reg ref04_May_r3 (some ([0, 2, 28], [])))
          (.cond (.t 28)
            (.seq
              (.reg ref04_May_r4 (some ([6], [])))
              .ret)
            .skip))
        (.seq
          (.reg ref04_May_r5 (some ([6], [])))
          .ret))))
def ref04_May_k (P : Program) (F : Nat → Nat) : Prop := chkFn P (F 190) 3 (ref04_May_c) [6] = true
def sl_Concat_device_Request_r0 : List AOper := [
  ⟨some 2, .val (.mov (.k (.nil 4))), none⟩]
def sl_Concat_device_Request_r1 : List AOper := [
  ⟨some 3, .val (.mov (.k (.int .i64 0))), none⟩]
def sl_Concat_device_Request_r2 : List AOper := [
  ⟨some 9, .val (.mov (.t 0)), none⟩,
  ⟨some 10, .val (.lenS (.t 9)), none⟩,
  ⟨some 11, .val (.mov (.k (.int .i64 0))), none⟩]
def sl_Concat_device_Request_r3 : List AOper := [
  ⟨some 12, .val (.bin .lss false (.t 11) (.t 10)), none⟩]
def sl_Concat_device_Request_r4 : List AOper := [
  ⟨some 13, .val (.ixS 1 (.t 9) (.t 11)), none⟩,
  ⟨some 14, .val (.load1 (.t 13)), none⟩,
  ⟨some 5, .val (.mov (.t 14)), none⟩]
def sl_Concat_device_Request_r5 : List AOper := [
  ⟨some 15, .val (.mov (.t 3)), none⟩,
  ⟨some 16, .val (.mov (.t 5)), none⟩,
  ⟨some 17, .val (.lenS (.t 16)), none⟩,
  ⟨some 18, .val (.bin .add true (.t 15) (.t 17)), none⟩,
  ⟨some 3, .val (.mov (.t 18)), none⟩]
def sl_Concat_device_Request_r6 : List AOper := [
  ⟨some 19, .val (.mov (.t 3)), none⟩,
  ⟨some 20, .val (.bin .lss false (.t 19) (.k (.int .i64 0))), none⟩]
def sl_Concat_device_Request_r8 : List AOper := [
  ⟨some 22, .val (.bin .add true (.t 11) (.k (.int .i64 1))), none⟩,
  ⟨some 11, .val (.mov (.t 22)), none⟩]
def sl_Concat_device_Request_r9 (F : Nat → Nat) : List AOper := [
  ⟨some 23, .val (.mov (.t 3)), none⟩,
  ⟨some 24, .call (F 150) [(.k (.nil 4)), (.t 23)], none⟩,
  ⟨some 6, .val (.mov (.t 24)), none⟩]
def sl_Concat_device_Request_r10 : List AOper := [
  ⟨some 25, .val (.mov (.t 0)), none⟩,
  ⟨some 26, .val (.lenS (.t 25)), none⟩,
  ⟨some 27, .val (.mov (.k (.int .i64 0))), none⟩]
def sl_Concat_device_Request_r11 : List AOper := [
  ⟨some 28, .val (.bin .lss false (.t 27) (.t 26)), none⟩]
def sl_Concat_device_Request_r12 : List AOper := [
  ⟨some 29, .val (.ixS 1 (.t 25) (.t 27)), none⟩,
  ⟨some 30, .val (.load1 (.t 29)), none⟩,
  ⟨some 8, .val (.mov (.t 30)), none⟩]
def sl_Concat_device_Request_r13 : List AOper := [
  ⟨some 31, .val (.mov (.t 6)), none⟩,
  ⟨some 32, .val (.mov (.t 8)), none⟩,
  ⟨some 33, .app 4 40 (.t 31) (.t 32), none⟩,
  ⟨some 6, .val (.mov (.t 33)), none⟩]
def sl_Concat_device_Request_r14 : List AOper := [
  ⟨some 34, .val (.bin .add true (.t 27) (.k (.int .i64 1))), none⟩,
  ⟨some 27, .val (.mov (.t 34)), none⟩]
def sl_Concat_device_Request_r15 : List AOper := [
  ⟨some 35, .val (.mov (.t 6)), none⟩,
  ⟨some 2, .val (.mov (.t 35)), none⟩]
def sl_Concat_device_Request_c (F : Nat → Nat) : ACode :=
  (.seq
    (.reg sl_Concat_device_Request_r0 (some ([0], [33, 1024])))
    (.seq
      (.reg sl_Concat_device_Request_r1 (some ([0, 3], [33, 1024])))
      (.seq
        (.seq
          (.reg sl_Concat_device_Request_r2 (some ([0, 3, 9, 10, 11], [33, 1024])))
          (.block 0
            (.loop
              (.seq
                (.reg sl_Concat_device_Request_r3 (some ([0, 3, 9, 10, 11, 12], [33, 1024])))
                (.seq
                  (.cond (.t 12)
                    .skip
                    (.exit 0))
                  (.seq
                    (.block 1
                      (.seq
                        (.reg sl_Concat_device_Request_r4 (some ([0, 3, 5, 9, 10, 11], [33, 1024])))
                        (.seq
                          (.reg sl_Concat_device_Request_r5 (some ([0, 3, 9, 10, 11], [33, 1024])))
                          (.seq
                            (.reg sl_Concat_device_Request_r6 (some ([0, 3, 9, 10, 11, 20], [33, 1024])))
                            (.cond (.t 20)
                              .halt
                              .skip)))))
                    (.reg sl_Concat_device_Request_r8 (some ([0, 3, 9, 10, 11], [33, 1024])))))))))
        (.seq
          (.reg (sl_Concat_device_Request_r9 F) (some ([0, 6], [33, 1024])))
          (.seq
            (.seq
              (.reg sl_Concat_device_Request_r10 (some ([6, 25, 26, 27], [33, 1024])))
              (.block 2
                (.loop
                  (.seq
                    (.reg sl_Concat_device_Request_r11 (some ([6, 25, 26, 27, 28], [33, 1024])))
                    (.seq
                      (.cond (.t 28)
                        .skip
                        (.exit 2))
                      (.seq
                        (.block 3
                          (.seq
                            (.reg sl_Concat_device_Request_r12 (some ([6, 8, 25, 26, 27], [33, 1024])))
                            (.reg sl_Concat_device_Request_r13 (some ([6, 25, 26, 27], [33, 1024])))))
                        (.reg sl_Concat_device_Request_r14 (some ([6, 25, 26, 27], [33, 1024])))))))))
            (.seq
              (.reg sl_Concat_device_Request_r15 (some ([2], [33, 1024])))
              .ret))))))
def sl_Concat_device_Request_k (P : Program) (F : Nat → Nat) : Prop := chkFn P (F 146) 1 (sl_Concat_device_Request_c F) [2] = true
def device_home_r0 : List AOper := [
  ⟨some 2, .val (.mov (.k (.int .i64 0))), none⟩]
def device_home_r1 : List AOper := [
  ⟨some 3, .val (.mov (.t 0)), none⟩,
  ⟨some 4, .val (.bin .mul true (.k (.int .i64 2)) (.t 3)), none⟩,
  ⟨some 5, .val (.bin .add true (.t 4) (.k (.int .i64 1))), none⟩,
  ⟨some 2, .val (.mov (.t 5)), none⟩]
def device_home_c : ACode :=
  (.seq
    (.reg device_home_r0 (some ([0], [])))
    (.seq
      (.reg device_home_r1 (some ([2], [])))
      .ret))
def device_home_k (P : Program) (F : Nat → Nat) : Prop := chkFn P (F 147) 1 (device_home_c) [2] = true
def device_put_r0 : List AOper := [
  ⟨some 2, .box 2 (.t 0), none⟩,
  ⟨some 3, .box 4 (.t 1), none⟩,
  ⟨some 4, .alloc 2 [.nil 1, .nil 2], none⟩,
  ⟨some 5, .val (.mov (.k (.int .i64 0))), none⟩]
def device_put_r1 : List AOper := [
  ⟨some 10, .val (.mov (.k (.int .i64 0))), none⟩]
def device_put_r2 : List AOper := [
  ⟨some 11, .val (.bin .lss false (.t 10) (.k (.int .i64 2))), none⟩]
def device_put_r3 : List AOper := [
  ⟨some 12, .val (.mov (.t 10)), none⟩,
  ⟨some 6, .val (.mov (.t 12)), none⟩]
def device_put_r4 (F : Nat → Nat) : List AOper := [
  ⟨some 13, .val (.field 2 (.t 3)), none⟩,
  ⟨some 14, .val (.load1 (.t 13)), none⟩,
  ⟨some 15, .call (F 147) [(.t 14)], none⟩,
  ⟨some 16, .val (.mov (.t 6)), none⟩,
  ⟨some 17, .val (.bin .add true (.t 15) (.t 16)), none⟩,
  ⟨some 18, .val (.field 3 (.t 3)), none⟩,
  ⟨some 19, .val (.load1 (.t 18)), none⟩,
  ⟨some 20, .val (.mov (.t 6)), none⟩,
  ⟨some 21, .val (.bin .mul true (.t 20) (.k (.int .i64 16))), none⟩,
  ⟨some 22, .val (.mov (.t 6)), none⟩,
  ⟨some 23, .val (.bin .add true (.t 22) (.k (.int .i64 1))), none⟩,
  ⟨some 24, .val (.bin .mul true (.t 23) (.k (.int .i64 16))), none⟩,
  ⟨some 25, .val (.slT (.t 19) (some (.t 21)) (some (.t 24))), none⟩,
  ⟨some 26, .val (.build 2 [.int .i64 0, .str []] [(0, 1, (.t 17)), (1, 1, (.t 25))]), none⟩,
  ⟨some 7, .alloc 2 [.int .i64 0, .str []], none⟩,
  ⟨none, .stA true 2 (.t 7) (.t 26), none⟩]
def device_put_r5 (F : Nat → Nat) : List AOper := [
  ⟨some 28, .val (.loadA 2 (.t 2)), none⟩,
  ⟨some 29, .val (.loadA 2 (.t 7)), none⟩,
  ⟨some 30, .call (F 36) [(.t 28), (.t 29)], none⟩,
  ⟨some 27, .val (.mov (.t 30)), none⟩,
  ⟨some 31, .val (.extr 0 (.t 27)), none⟩,
  ⟨some 32, .val (.extr 1 (.t 27)), none⟩,
  ⟨some 8, .alloc 2 [.nil 1, .nil 2], none⟩,
  ⟨none, .stA true 2 (.t 8) (.t 31), none⟩,
  ⟨some 9, .val (.mov (.t 32)), none⟩]
def device_put_r6 : List AOper := [
  ⟨some 33, .val (.mov (.t 9)), none⟩,
  ⟨some 34, .val (.bin .neq false (.t 33) (.k (.int .i64 0))), none⟩]
def device_put_r7 : List AOper := [
  ⟨some 35, .val (.loadA 2 (.t 2)), none⟩,
  ⟨none, .stA true 2 (.t 4) (.t 35), none⟩,
  ⟨some 5, .val (.mov (.k (.int .i64 7))), none⟩]
def device_put_r8 : List AOper := [
  ⟨some 36, .val (.loadA 2 (.t 8)), none⟩,
  ⟨none, .stA true 2 (.t 2) (.t 36), none⟩]
def device_put_r9 : List AOper := [
  ⟨some 37, .val (.bin .add true (.t 10) (.k (.int .i64 1))), none⟩,
  ⟨some 10, .val (.mov (.t 37)), none⟩]
def device_put_r10 : List AOper := [
  ⟨some 38, .val (.loadA 2 (.t 2)), none⟩,
  ⟨none, .stA true 2 (.t 4) (.t 38), none⟩,
  ⟨some 5, .val (.mov (.k (.int .i64 0))), none⟩]
def device_put_c (F : Nat → Nat) : ACode :=
  (.seq
    (.reg device_put_r0 (some ([2, 3, 4], [2, 3, 4])))
    (.seq
      (.seq
        (.reg device_put_r1 (some ([2, 3, 4, 10], [2, 3, 4])))
        (.block 0
          (.loop
            (.seq
              (.reg device_put_r2 (some ([2, 3, 4, 10, 11], [2, 3, 4])))
              (.seq
                (.cond (.t 11)
                  .skip
                  (.exit 0))
                (.seq
                  (.block 1
                    (.seq
                      (.reg device_put_r3 (some ([2, 3, 4, 6, 10], [2, 3, 4])))
                      (.seq
                        (.regD (device_put_r4 F) [(2, 3), (2, 5), (2, 6), (2, 7), (2, 8), (2, 9), (2, 10), (2, 11), (2, 12), (0, 14), (1, 14), (2, 14), (3, 14), (4, 14), (5, 14), (6, 14), (7, 14), (8, 14), (9, 14), (10, 14), (11, 14), (12, 14), (13, 14)] (some ([2, 3, 4, 7, 10], [2, 3, 4, 7])))
                        (.seq
                          (.reg (device_put_r5 F) (some ([2, 3, 4, 8, 9, 10], [2, 3, 4, 8])))
                          (.seq
                            (.seq
                              (.reg device_put_r6 (some ([2, 3, 4, 8, 10, 34], [2, 3, 4, 8])))
                              (.cond (.t 34)
                                (.seq
                                  (.reg device_put_r7 (some ([4, 5], [4])))
                                  .ret)
                                .skip))
                            (.reg device_put_r8 (some ([2, 3, 4, 10], [2, 3, 4]))))))))
                  (.reg device_put_r9 (some ([2, 3, 4, 10], [2, 3, 4])))))))))
      (.seq
        (.reg device_put_r10 (some ([4, 5], [4])))
        .ret)))
def device_put_k (P : Program) (F : Nat → Nat) : Prop := chkFn P (F 148) 2 (device_put_c F) [.loadA 2 (.t 4), 5] = true
def sl_Grow_device_Request_r0 : List AOper := [
  ⟨some 4, .val (.mov (.k (.nil 4))), none⟩]
def sl_Grow_device_Request_r1 : List AOper := [
  ⟨some 5, .val (.mov (.t 1)), none⟩,
  ⟨some 6, .val (.bin .lss false (.t 5) (.k (.int .i64 0))), none⟩]
def sl_Grow_device_Request_r3 : List AOper := [
  ⟨some 8, .val (.mov (.t 1)), none⟩,
  ⟨some 9, .val (.mov (.t 0)), none⟩,
  ⟨some 10, .val (.capS (.t 9)), none⟩,
  ⟨some 11, .val (.mov (.t 0)), none⟩,
  ⟨some 12, .val (.lenS (.t 11)), none⟩,
  ⟨some 13, .val (.bin .sub true (.t 10) (.t 12)), none⟩,
  ⟨some 14, .val (.bin .sub true (.t 8) (.t 13)), none⟩,
  ⟨some 1, .val (.mov (.t 14)), none⟩]
def sl_Grow_device_Request_r4 : List AOper := [
  ⟨some 15, .val (.mov (.t 1)), none⟩,
  ⟨some 16, .val (.bin .gtr false (.t 15) (.k (.int .i64 0))), none⟩]
def sl_Grow_device_Request_r5 : List AOper := [
  ⟨some 17, .val (.mov (.t 0)), none⟩,
  ⟨some 18, .val (.mov (.t 0)), none⟩,
  ⟨some 19, .val (.capS (.t 18)), none⟩,
  ⟨some 20, .val (.slS 4 (.t 17) none (some (.t 19))), none⟩,
  ⟨some 21, .val (.mov (.t 1)), none⟩,
  ⟨some 22, .appZ 4 40 [.int .i64 0, .int .i64 0, .int .i64 0, .str []] (.t 20) (.t 21), none⟩,
  ⟨some 23, .val (.mov (.t 0)), none⟩,
  ⟨some 24, .val (.lenS (.t 23)), none⟩,
  ⟨some 25, .val (.slS 4 (.t 22) none (some (.t 24))), none⟩,
  ⟨some 0, .val (.mov (.t 25)), none⟩]
def sl_Grow_device_Request_r6 : List AOper := [
  ⟨some 26, .val (.mov (.t 0)), none⟩,
  ⟨some 4, .val (.mov (.t 26)), none⟩]
def sl_Grow_device_Request_c : ACode :=
  (.seq
    (.reg sl_Grow_device_Request_r0 (some ([0, 1], [22])))
    (.seq
      (.seq
        (.reg sl_Grow_device_Request_r1 (some ([0, 1, 6], [22])))
        (.cond (.t 6)
          .halt
          .skip))
      (.seq
        (.seq
          (.reg sl_Grow_device_Request_r3 (some ([0, 1], [22])))
          (.seq
            (.reg sl_Grow_device_Request_r4 (some ([0, 1, 16], [22])))
            (.cond (.t 16)
              (.reg sl_Grow_device_Request_r5 (some ([0], [22])))
              .skip)))
        (.seq
          (.reg sl_Grow_device_Request_r6 (some ([4], [22])))
          .ret))))
def sl_Grow_device_Request_k (P : Program) (F : Nat → Nat) : Prop := chkFn P (F 150) 2 (sl_Grow_device_Request_c) [4] = true
end Lk.C
