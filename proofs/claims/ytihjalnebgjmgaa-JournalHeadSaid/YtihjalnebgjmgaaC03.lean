/-
  The code of functions, as the abstract machine's, over any numbering F of the program's functions.
-/
import Derived.Test.YtihjalnebgjmgaaLkC
namespace Lk.C
open Go Lk
/- lockkeeper/lockkeeperlaw03.DiskNew : names 0 n, 1 n, 3 d, 4 e, 5 _, 6 s uns [] -/
/- law.go:20 -/
def law03_DiskNew_r0 : List AOper := [
  ⟨some 2, .val (.mov (.k (.bool false))), none⟩]
/- law.go:21 -/
def law03_DiskNew_r1 (F : Nat → Nat) : List AOper := [
  ⟨some 8, .val (.mov (.t 0)), none⟩,
  ⟨some 9, .call (F 28) [(.t 8)], none⟩,
  ⟨some 7, .val (.mov (.t 9)), none⟩,
  ⟨some 10, .val (.extr 0 (.t 7)), none⟩,
  ⟨some 11, .val (.extr 1 (.t 7)), none⟩,
  ⟨some 3, .alloc 2 [.nil 1, .nil 2], none⟩,
  ⟨none, .stA true 2 (.t 3) (.t 10), none⟩,
  ⟨some 4, .val (.mov (.t 11)), none⟩]
/- law.go:22 -/
def law03_DiskNew_r2 : List AOper := [
  ⟨some 12, .val (.mov (.t 0)), none⟩,
  ⟨some 13, .val (.bin .lss false (.t 12) (.k (.int .i64 1))), none⟩,
  ⟨some 14, .val (.mov (.t 13)), none⟩,
  ⟨some 15, .val (.mov (.t 0)), some (14, false)⟩,
  ⟨some 16, .val (.bin .gtr false (.t 15) (.k (.int .i64 64))), some (14, false)⟩,
  ⟨some 17, .val (.por (.t 14) (.t 16)), none⟩]
/- law.go:23 -/
def law03_DiskNew_r3 (F : Nat → Nat) : List AOper := [
  ⟨some 18, .val (.field 0 (.t 3)), none⟩,
  ⟨some 19, .val (.load1 (.t 18)), none⟩,
  ⟨some 20, .val (.lenS (.t 19)), none⟩,
  ⟨some 21, .val (.field 1 (.t 3)), none⟩,
  ⟨some 22, .val (.load1 (.t 21)), none⟩,
  ⟨some 23, .val (.lenS (.t 22)), none⟩,
  ⟨some 24, .val (.bin .add true (.t 20) (.t 23)), none⟩,
  ⟨some 25, .val (.bin .eql false (.t 24) (.k (.int .i64 0))), none⟩,
  ⟨some 26, .val (.mov (.t 25)), none⟩,
  ⟨some 27, .val (.mov (.t 4)), some (26, true)⟩,
  ⟨some 28, .val (.bin .eql false (.t 27) (.k (.int .i64 1))), some (26, true)⟩,
  ⟨some 29, .val (.pand (.t 26) (.t 28)), none⟩,
  ⟨some 30, .val (.mov (.t 29)), none⟩,
  ⟨some 31, .call (F 29) [], some (30, true)⟩,
  ⟨some 32, .val (.pand (.t 30) (.t 31)), none⟩,
  ⟨some 2, .val (.mov (.t 32)), none⟩]
/- law.go:25 -/
def law03_DiskNew_r4 : List AOper := [
  ⟨some 33, .val (.field 0 (.t 3)), none⟩,
  ⟨some 34, .val (.load1 (.t 33)), none⟩,
  ⟨some 35, .val (.lenS (.t 34)), none⟩,
  ⟨some 36, .val (.mov (.k (.int .i64 0))), none⟩]
/- law.go:25 -/
def law03_DiskNew_r5 : List AOper := [
  ⟨some 37, .val (.bin .lss false (.t 36) (.t 35)), none⟩]
/- law.go:25 -/
def law03_DiskNew_r6 : List AOper := [
  ⟨some 38, .val (.ixS 1 (.t 34) (.t 36)), none⟩,
  ⟨some 39, .val (.load1 (.t 38)), none⟩,
  ⟨some 6, .val (.mov (.t 39)), none⟩]
/- law.go:26 -/
def law03_DiskNew_r7 : List AOper := [
  ⟨some 40, .val (.mov (.t 6)), none⟩,
  ⟨some 41, .val (.bin .neq false (.t 40) (.k (.str [0, 0, 0, 0, 0, 0, 0, 0, 0, 0, 0, 0, 0, 0, 0, 0]))), none⟩]
/- law.go:27 -/
def law03_DiskNew_r8 : List AOper := [
  ⟨some 2, .val (.mov (.k (.bool false))), none⟩]
/- law.go:25 -/
def law03_DiskNew_r9 : List AOper := [
  ⟨some 42, .val (.bin .add true (.t 36) (.k (.int .i64 1))), none⟩,
  ⟨some 36, .val (.mov (.t 42)), none⟩]
/- law.go:30 -/
def law03_DiskNew_r10 (F : Nat → Nat) : List AOper := [
  ⟨some 43, .val (.field 0 (.t 3)), none⟩,
  ⟨some 44, .val (.load1 (.t 43)), none⟩,
  ⟨some 45, .val (.lenS (.t 44)), none⟩,
  ⟨some 46, .val (.mov (.t 0)), none⟩,
  ⟨some 47, .val (.bin .eql false (.t 45) (.t 46)), none⟩,
  ⟨some 48, .val (.mov (.t 47)), none⟩,
  ⟨some 49, .val (.field 1 (.t 3)), some (48, true)⟩,
  ⟨some 50, .val (.load1 (.t 49)), some (48, true)⟩,
  ⟨some 51, .val (.lenS (.t 50)), some (48, true)⟩,
  ⟨some 52, .val (.bin .eql false (.t 51) (.k (.int .i64 0))), some (48, true)⟩,
  ⟨some 53, .val (.pand (.t 48) (.t 52)), none⟩,
  ⟨some 54, .val (.mov (.t 53)), none⟩,
  ⟨some 55, .val (.mov (.t 4)), some (54, true)⟩,
  ⟨some 56, .val (.bin .eql false (.t 55) (.k (.int .i64 0))), some (54, true)⟩,
  ⟨some 57, .val (.pand (.t 54) (.t 56)), none⟩,
  ⟨some 58, .val (.mov (.t 57)), none⟩,
  ⟨some 59, .call (F 29) [], some (58, true)⟩,
  ⟨some 60, .val (.pand (.t 58) (.t 59)), none⟩,
  ⟨some 2, .val (.mov (.t 60)), none⟩]
def law03_DiskNew_c (F : Nat → Nat) : ACode :=
  (.seq
    (.reg law03_DiskNew_r0 (some ([0], [])))
    (.seq
      (.reg (law03_DiskNew_r1 F) (some ([0, 3, 4], [3])))
      (.seq
        (.seq
          (.reg law03_DiskNew_r2 (some ([0, 3, 4, 17], [3])))
          (.cond (.t 17)
            (.seq
              (.reg (law03_DiskNew_r3 F) (some ([2], [])))
              .ret)
            .skip))
        (.seq
          (.seq
            (.reg law03_DiskNew_r4 (some ([0, 3, 4, 34, 35, 36], [3])))
            (.block 0
              (.loop
                (.seq
                  (.reg law03_DiskNew_r5 (some ([0, 3, 4, 34, 35, 36, 37], [3])))
                  (.seq
                    (.cond (.t 37)
                      .skip
                      (.exit 0))
                    (.seq
                      (.block 1
                        (.seq
                          (.reg law03_DiskNew_r6 (some ([0, 3, 4, 6, 34, 35, 36], [3])))
                          (.seq
                            (.reg law03_DiskNew_r7 (some ([0, 3, 4, 34, 35, 36, 41], [3])))
                            (.cond (.t 41)
                              (.seq
                                (.reg law03_DiskNew_r8 (some ([2], [])))
                                .ret)
                              .skip))))
                      (.reg law03_DiskNew_r9 (some ([0, 3, 4, 34, 35, 36], [3])))))))))
          (.seq
            (.reg (law03_DiskNew_r10 F) (some ([2], [])))
            .ret)))))
def law03_DiskNew_k (P : Program) (F : Nat → Nat) : Prop := chkFn P (F 30) 1 (law03_DiskNew_c F) [2] = true

/- lockkeeper/lockkeeperlaw03.DiskOld : names 0 d, 1 keep, 2 d, 3 keep, 5 c, 6 at, 7 s, 8 was, 9 _, 10 w uns [] -/
/- law.go:85 -/
def law03_DiskOld_r0 : List AOper := [
  ⟨some 2, .box 2 (.t 0), none⟩,
  ⟨some 4, .val (.mov (.k (.bool false))), none⟩]
/- law.go:86 -/
def law03_DiskOld_r1 (F : Nat → Nat) : List AOper := [
  ⟨some 11, .val (.loadA 2 (.t 2)), none⟩,
  ⟨some 12, .call (F 31) [(.t 11)], none⟩,
  ⟨some 13, .val (.not (.t 12)), none⟩,
  ⟨some 14, .val (.mov (.t 13)), none⟩,
  ⟨some 15, .val (.mov (.t 1)), some (14, false)⟩,
  ⟨some 16, .val (.lenS (.t 15)), some (14, false)⟩,
  ⟨some 17, .val (.bin .gtr false (.t 16) (.k (.int .i64 220))), some (14, false)⟩,
  ⟨some 18, .val (.por (.t 14) (.t 17)), none⟩,
  ⟨some 19, .val (.mov (.t 18)), none⟩,
  ⟨some 20, .val (.loadA 2 (.t 2)), some (19, false)⟩,
  ⟨some 21, .call (F 32) [(.t 20)], some (19, false)⟩,
  ⟨some 22, .val (.not (.t 21)), some (19, false)⟩,
  ⟨some 23, .val (.por (.t 19) (.t 22)), none⟩]
/- law.go:87 -/
def law03_DiskOld_r2 (F : Nat → Nat) : List AOper := [
  ⟨some 24, .call (F 29) [], none⟩,
  ⟨some 4, .val (.mov (.t 24)), none⟩]
/- law.go:89 -/
def law03_DiskOld_r3 (F : Nat → Nat) : List AOper := [
  ⟨some 25, .val (.loadA 2 (.t 2)), none⟩,
  ⟨some 26, .val (.mov (.t 1)), none⟩,
  ⟨some 27, .call (F 33) [(.t 25), (.t 26)], none⟩,
  ⟨some 5, .alloc 2 [.nil 1, .nil 2], none⟩,
  ⟨none, .stA true 2 (.t 5) (.t 27), none⟩]
/- law.go:90 -/
def law03_DiskOld_r4 : List AOper := [
  ⟨some 28, .val (.field 0 (.t 5)), none⟩,
  ⟨some 29, .val (.load1 (.t 28)), none⟩,
  ⟨some 30, .val (.lenS (.t 29)), none⟩,
  ⟨some 31, .val (.field 0 (.t 2)), none⟩,
  ⟨some 32, .val (.load1 (.t 31)), none⟩,
  ⟨some 33, .val (.lenS (.t 32)), none⟩,
  ⟨some 34, .val (.bin .neq false (.t 30) (.t 33)), none⟩,
  ⟨some 35, .val (.mov (.t 34)), none⟩,
  ⟨some 36, .val (.field 1 (.t 5)), some (35, false)⟩,
  ⟨some 37, .val (.load1 (.t 36)), some (35, false)⟩,
  ⟨some 38, .val (.lenS (.t 37)), some (35, false)⟩,
  ⟨some 39, .val (.bin .neq false (.t 38) (.k (.int .i64 0))), some (35, false)⟩,
  ⟨some 40, .val (.por (.t 35) (.t 39)), none⟩]
/- law.go:91 -/
def law03_DiskOld_r5 : List AOper := [
  ⟨some 4, .val (.mov (.k (.bool false))), none⟩]
/- law.go:93 -/
def law03_DiskOld_r6 : List AOper := [
  ⟨some 41, .val (.field 0 (.t 5)), none⟩,
  ⟨some 42, .val (.load1 (.t 41)), none⟩,
  ⟨some 43, .val (.lenS (.t 42)), none⟩,
  ⟨some 44, .val (.mov (.k (.int .i64 0))), none⟩]
/- law.go:93 -/
def law03_DiskOld_r7 : List AOper := [
  ⟨some 45, .val (.bin .lss false (.t 44) (.t 43)), none⟩]
/- law.go:93 -/
def law03_DiskOld_r8 : List AOper := [
  ⟨some 46, .val (.mov (.t 44)), none⟩,
  ⟨some 47, .val (.ixS 1 (.t 42) (.t 44)), none⟩,
  ⟨some 48, .val (.load1 (.t 47)), none⟩,
  ⟨some 6, .val (.mov (.t 46)), none⟩,
  ⟨some 7, .val (.mov (.t 48)), none⟩]
/- law.go:94 -/
def law03_DiskOld_r9 : List AOper := [
  ⟨some 49, .val (.mov (.t 7)), none⟩,
  ⟨some 50, .val (.field 0 (.t 2)), none⟩,
  ⟨some 51, .val (.load1 (.t 50)), none⟩,
  ⟨some 52, .val (.mov (.t 6)), none⟩,
  ⟨some 53, .val (.ixS 1 (.t 51) (.t 52)), none⟩,
  ⟨some 54, .val (.load1 (.t 53)), none⟩,
  ⟨some 55, .val (.bin .eql false (.t 49) (.t 54)), none⟩,
  ⟨some 8, .val (.mov (.t 55)), none⟩]
/- law.go:95 -/
def law03_DiskOld_r10 : List AOper := [
  ⟨some 56, .val (.field 1 (.t 2)), none⟩,
  ⟨some 57, .val (.load1 (.t 56)), none⟩,
  ⟨some 58, .val (.lenS (.t 57)), none⟩,
  ⟨some 59, .val (.mov (.k (.int .i64 0))), none⟩]
/- law.go:95 -/
def law03_DiskOld_r11 : List AOper := [
  ⟨some 60, .val (.bin .lss false (.t 59) (.t 58)), none⟩]
/- law.go:95 -/
def law03_DiskOld_r12 : List AOper := [
  ⟨some 61, .val (.ixS 2 (.t 57) (.t 59)), none⟩,
  ⟨some 62, .val (.loadA 2 (.t 61)), none⟩,
  ⟨some 10, .alloc 2 [.int .i64 0, .str []], none⟩,
  ⟨none, .stA true 2 (.t 10) (.t 62), none⟩]
/- law.go:96 -/
def law03_DiskOld_r13 : List AOper := [
  ⟨some 63, .val (.mov (.t 8)), none⟩,
  ⟨some 64, .val (.mov (.t 63)), none⟩,
  ⟨some 65, .val (.field 0 (.t 10)), some (64, false)⟩,
  ⟨some 66, .val (.load1 (.t 65)), some (64, false)⟩,
  ⟨some 67, .val (.mov (.t 6)), some (64, false)⟩,
  ⟨some 68, .val (.bin .eql false (.t 66) (.t 67)), some (64, false)⟩,
  ⟨some 69, .val (.mov (.t 68)), some (64, false)⟩,
  ⟨some 70, .val (.field 1 (.t 10)), some (69, true)⟩,
  ⟨some 71, .val (.load1 (.t 70)), some (69, true)⟩,
  ⟨some 72, .val (.mov (.t 7)), some (69, true)⟩,
  ⟨some 73, .val (.bin .eql false (.t 71) (.t 72)), some (69, true)⟩,
  ⟨some 74, .val (.pand (.t 69) (.t 73)), some (64, false)⟩,
  ⟨some 75, .val (.por (.t 64) (.t 74)), none⟩,
  ⟨some 8, .val (.mov (.t 75)), none⟩]
/- law.go:95 -/
def law03_DiskOld_r14 : List AOper := [
  ⟨some 76, .val (.bin .add true (.t 59) (.k (.int .i64 1))), none⟩,
  ⟨some 59, .val (.mov (.t 76)), none⟩]
/- law.go:98 -/
def law03_DiskOld_r15 : List AOper := [
  ⟨some 77, .val (.mov (.t 8)), none⟩,
  ⟨some 78, .val (.not (.t 77)), none⟩]
/- law.go:99 -/
def law03_DiskOld_r16 : List AOper := [
  ⟨some 4, .val (.mov (.k (.bool false))), none⟩]
/- law.go:93 -/
def law03_DiskOld_r17 : List AOper := [
  ⟨some 79, .val (.bin .add true (.t 44) (.k (.int .i64 1))), none⟩,
  ⟨some 44, .val (.mov (.t 79)), none⟩]
/- law.go:102 -/
def law03_DiskOld_r18 (F : Nat → Nat) : List AOper := [
  ⟨some 80, .call (F 29) [], none⟩,
  ⟨some 4, .val (.mov (.t 80)), none⟩]
def law03_DiskOld_c (F : Nat → Nat) : ACode :=
  (.seq
    (.reg law03_DiskOld_r0 (some ([1, 2], [2])))
    (.seq
      (.seq
        (.reg (law03_DiskOld_r1 F) (some ([1, 2, 23], [2])))
        (.cond (.t 23)
          (.seq
            (.reg (law03_DiskOld_r2 F) (some ([4], [])))
            .ret)
          .skip))
      (.seq
        (.reg (law03_DiskOld_r3 F) (some ([2, 5], [2, 5])))
        (.seq
          (.seq
            (.reg law03_DiskOld_r4 (some ([2, 5, 40], [2, 5])))
            (.cond (.t 40)
              (.seq
                (.reg law03_DiskOld_r5 (some ([4], [])))
                .ret)
              .skip))
          (.seq
            (.seq
              (.reg law03_DiskOld_r6 (some ([2, 42, 43, 44], [2])))
              (.block 0
                (.loop
                  (.seq
                    (.reg law03_DiskOld_r7 (some ([2, 42, 43, 44, 45], [2])))
                    (.seq
                      (.cond (.t 45)
                        .skip
                        (.exit 0))
                      (.seq
                        (.block 1
                          (.seq
                            (.reg law03_DiskOld_r8 (some ([2, 6, 7, 42, 43, 44], [2])))
                            (.seq
                              (.reg law03_DiskOld_r9 (some ([2, 6, 7, 8, 42, 43, 44], [2])))
                              (.seq
                                (.seq
                                  (.reg law03_DiskOld_r10 (some ([2, 6, 7, 8, 42, 43, 44, 57, 58, 59], [2])))
                                  (.block 2
                                    (.loop
                                      (.seq
                                        (.reg law03_DiskOld_r11 (some ([2, 6, 7, 8, 42, 43, 44, 57, 58, 59, 60], [2])))
                                        (.seq
                                          (.cond (.t 60)
                                            .skip
                                            (.exit 2))
                                          (.seq
                                            (.block 3
                                              (.seq
                                                (.reg law03_DiskOld_r12 (some ([2, 6, 7, 8, 10, 42, 43, 44, 57, 58, 59], [2, 10])))
                                                (.reg law03_DiskOld_r13 (some ([2, 6, 7, 8, 42, 43, 44, 57, 58, 59], [2])))))
                                            (.reg law03_DiskOld_r14 (some ([2, 6, 7, 8, 42, 43, 44, 57, 58, 59], [2])))))))))
                                (.seq
                                  (.reg law03_DiskOld_r15 (some ([2, 42, 43, 44, 78], [2])))
                                  (.cond (.t 78)
                                    (.seq
                                      (.reg law03_DiskOld_r16 (some ([4], [])))
                                      .ret)
                                    .skip))))))
                        (.reg law03_DiskOld_r17 (some ([2, 42, 43, 44], [2])))))))))
            (.seq
              (.reg (law03_DiskOld_r18 F) (some ([4], [])))
              .ret))))))
def law03_DiskOld_k (P : Program) (F : Nat → Nat) : Prop := chkFn P (F 34) 2 (law03_DiskOld_c F) [4] = true

/- lockkeeper/lockkeeperlaw03.DiskTwice : names 0 at, 1 a, 2 b, 3 first, 4 second, 5 at, 6 a, 7 b, 8 first, 9 second, 11 d, 12 e, 13 k, 14 x, 15 y, 16 f, 17 g, 18 keep, 19 want, 20 c, 21 s, 22 h, 23 t, 24 i uns [] -/
/- law.go:106 -/
def law03_DiskTwice_r0 : List AOper := [
  ⟨some 10, .val (.mov (.k (.bool false))), none⟩]
/- law.go:107 -/
def law03_DiskTwice_r1 (F : Nat → Nat) : List AOper := [
  ⟨some 26, .call (F 28) [(.k (.int .i64 6))], none⟩,
  ⟨some 25, .val (.mov (.t 26)), none⟩,
  ⟨some 27, .val (.extr 0 (.t 25)), none⟩,
  ⟨some 28, .val (.extr 1 (.t 25)), none⟩,
  ⟨some 11, .alloc 2 [.nil 1, .nil 2], none⟩,
  ⟨none, .stA true 2 (.t 11) (.t 27), none⟩,
  ⟨some 12, .val (.mov (.t 28)), none⟩]
/- law.go:108 -/
def law03_DiskTwice_r2 : List AOper := [
  ⟨some 29, .val (.mov (.t 0)), none⟩,
  ⟨some 30, .val (.bin .rem true (.t 29) (.k (.int .u8 6))), none⟩,
  ⟨some 31, .val (.conv true .i64 (.t 30)), none⟩,
  ⟨some 13, .val (.mov (.t 31)), none⟩]
/- law.go:109 -/
def law03_DiskTwice_r3 (F : Nat → Nat) : List AOper := [
  ⟨some 32, .val (.mov (.t 1)), none⟩,
  ⟨some 33, .call (F 35) [(.t 32)], none⟩,
  ⟨some 34, .val (.mov (.t 2)), none⟩,
  ⟨some 35, .call (F 35) [(.t 34)], none⟩,
  ⟨some 14, .val (.mov (.t 33)), none⟩,
  ⟨some 15, .val (.mov (.t 35)), none⟩]
/- law.go:110 -/
def law03_DiskTwice_r4 (F : Nat → Nat) : List AOper := [
  ⟨some 37, .val (.loadA 2 (.t 11)), none⟩,
  ⟨some 38, .val (.mov (.t 13)), none⟩,
  ⟨some 39, .val (.mov (.t 14)), none⟩,
  ⟨some 40, .val (.build 2 [.int .i64 0, .str []] [(0, 1, (.t 38)), (1, 1, (.t 39))]), none⟩,
  ⟨some 41, .call (F 36) [(.t 37), (.t 40)], none⟩,
  ⟨some 36, .val (.mov (.t 41)), none⟩,
  ⟨some 42, .val (.extr 0 (.t 36)), none⟩,
  ⟨some 43, .val (.extr 1 (.t 36)), none⟩,
  ⟨none, .stA true 2 (.t 11) (.t 42), none⟩,
  ⟨some 16, .val (.mov (.t 43)), none⟩]
/- law.go:111 -/
def law03_DiskTwice_r5 (F : Nat → Nat) : List AOper := [
  ⟨some 45, .val (.loadA 2 (.t 11)), none⟩,
  ⟨some 46, .val (.mov (.t 13)), none⟩,
  ⟨some 47, .val (.mov (.t 15)), none⟩,
  ⟨some 48, .val (.build 2 [.int .i64 0, .str []] [(0, 1, (.t 46)), (1, 1, (.t 47))]), none⟩,
  ⟨some 49, .call (F 36) [(.t 45), (.t 48)], none⟩,
  ⟨some 44, .val (.mov (.t 49)), none⟩,
  ⟨some 50, .val (.extr 0 (.t 44)), none⟩,
  ⟨some 51, .val (.extr 1 (.t 44)), none⟩,
  ⟨none, .stA true 2 (.t 11) (.t 50), none⟩,
  ⟨some 17, .val (.mov (.t 51)), none⟩]
/- law.go:112 -/
def law03_DiskTwice_r6 : List AOper := [
  ⟨some 18, .val (.mov (.k (.nil 1))), none⟩]
/- law.go:113 -/
def law03_DiskTwice_r7 : List AOper := [
  ⟨some 19, .val (.mov (.k (.str [0, 0, 0, 0, 0, 0, 0, 0, 0, 0, 0, 0, 0, 0, 0, 0]))), none⟩]
/- law.go:114 -/
def law03_DiskTwice_r8 : List AOper := [
  ⟨some 52, .val (.mov (.t 3)), none⟩]
/- law.go:115 -/
def law03_DiskTwice_r9 : List AOper := [
  ⟨some 53, .val (.mov (.t 18)), none⟩,
  ⟨some 54, .buildS 1 1 [.int .i64 0] [(0, (.k (.int .i64 0)))], none⟩,
  ⟨some 55, .app 1 8 (.t 53) (.t 54), none⟩,
  ⟨some 56, .val (.mov (.t 14)), none⟩,
  ⟨some 18, .val (.mov (.t 55)), none⟩,
  ⟨some 19, .val (.mov (.t 56)), none⟩]
/- law.go:117 -/
def law03_DiskTwice_r10 : List AOper := [
  ⟨some 57, .val (.mov (.t 4)), none⟩]
/- law.go:118 -/
def law03_DiskTwice_r11 : List AOper := [
  ⟨some 58, .val (.mov (.t 18)), none⟩,
  ⟨some 59, .buildS 1 1 [.int .i64 0] [(0, (.k (.int .i64 1)))], none⟩,
  ⟨some 60, .app 1 8 (.t 58) (.t 59), none⟩,
  ⟨some 61, .val (.mov (.t 15)), none⟩,
  ⟨some 18, .val (.mov (.t 60)), none⟩,
  ⟨some 19, .val (.mov (.t 61)), none⟩]
/- law.go:120 -/
def law03_DiskTwice_r12 (F : Nat → Nat) : List AOper := [
  ⟨some 62, .val (.loadA 2 (.t 11)), none⟩,
  ⟨some 63, .val (.mov (.t 18)), none⟩,
  ⟨some 64, .call (F 33) [(.t 62), (.t 63)], none⟩,
  ⟨some 20, .alloc 2 [.nil 1, .nil 2], none⟩,
  ⟨none, .stA true 2 (.t 20) (.t 64), none⟩]
/- law.go:121 -/
def law03_DiskTwice_r13 (F : Nat → Nat) : List AOper := [
  ⟨some 66, .val (.loadA 2 (.t 20)), none⟩,
  ⟨some 67, .val (.mov (.t 13)), none⟩,
  ⟨some 68, .call (F 37) [(.t 66), (.t 67)], none⟩,
  ⟨some 65, .val (.mov (.t 68)), none⟩,
  ⟨some 69, .val (.extr 0 (.t 65)), none⟩,
  ⟨some 70, .val (.extr 1 (.t 65)), none⟩,
  ⟨some 21, .val (.mov (.t 69)), none⟩,
  ⟨some 22, .val (.mov (.t 70)), none⟩]
/- law.go:122 -/
def law03_DiskTwice_r14 (F : Nat → Nat) : List AOper := [
  ⟨some 72, .val (.loadA 2 (.t 11)), none⟩,
  ⟨some 73, .val (.mov (.t 13)), none⟩,
  ⟨some 74, .call (F 37) [(.t 72), (.t 73)], none⟩,
  ⟨some 71, .val (.mov (.t 74)), none⟩,
  ⟨some 75, .val (.extr 0 (.t 71)), none⟩,
  ⟨some 76, .val (.extr 1 (.t 71)), none⟩,
  ⟨some 23, .val (.mov (.t 75)), none⟩,
  ⟨some 24, .val (.mov (.t 76)), none⟩]
/- law.go:123 DRAWS -/
def law03_DiskTwice_r15 (F : Nat → Nat) : List AOper := [
  ⟨some 77, .val (.mov (.t 12)), none⟩,
  ⟨some 78, .val (.bin .eql false (.t 77) (.k (.int .i64 0))), none⟩,
  ⟨some 79, .val (.mov (.t 78)), none⟩,
  ⟨some 80, .val (.mov (.t 16)), some (79, true)⟩,
  ⟨some 81, .val (.bin .eql false (.t 80) (.k (.int .i64 0))), some (79, true)⟩,
  ⟨some 82, .val (.pand (.t 79) (.t 81)), none⟩,
  ⟨some 83, .val (.mov (.t 82)), none⟩,
  ⟨some 84, .val (.mov (.t 17)), some (83, true)⟩,
  ⟨some 85, .val (.bin .eql false (.t 84) (.k (.int .i64 0))), some (83, true)⟩,
  ⟨some 86, .val (.pand (.t 83) (.t 85)), none⟩,
  ⟨some 87, .val (.mov (.t 86)), none⟩,
  ⟨some 88, .val (.mov (.t 22)), some (87, true)⟩,
  ⟨some 89, .val (.bin .eql false (.t 88) (.k (.int .i64 0))), some (87, true)⟩,
  ⟨some 90, .val (.pand (.t 87) (.t 89)), none⟩,
  ⟨some 91, .val (.mov (.t 90)), none⟩,
  ⟨some 92, .val (.mov (.t 24)), some (91, true)⟩,
  ⟨some 93, .val (.bin .eql false (.t 92) (.k (.int .i64 0))), some (91, true)⟩,
  ⟨some 94, .val (.pand (.t 91) (.t 93)), none⟩,
  ⟨some 95, .val (.mov (.t 94)), none⟩,
  ⟨some 96, .val (.mov (.t 21)), some (95, true)⟩,
  ⟨some 97, .val (.mov (.t 19)), some (95, true)⟩,
  ⟨some 98, .val (.bin .eql false (.t 96) (.t 97)), some (95, true)⟩,
  ⟨some 99, .val (.pand (.t 95) (.t 98)), none⟩,
  ⟨some 100, .val (.mov (.t 99)), none⟩,
  ⟨some 101, .val (.mov (.t 23)), some (100, true)⟩,
  ⟨some 102, .val (.mov (.t 15)), some (100, true)⟩,
  ⟨some 103, .val (.bin .eql false (.t 101) (.t 102)), some (100, true)⟩,
  ⟨some 104, .val (.pand (.t 100) (.t 103)), none⟩,
  ⟨some 105, .val (.mov (.t 104)), none⟩,
  ⟨some 106, .val (.loadA 2 (.t 20)), some (105, true)⟩,
  ⟨some 107, .val (.mov (.t 18)), some (105, true)⟩,
  ⟨some 108, .call (F 33) [(.t 106), (.t 107)], some (105, true)⟩,
  ⟨some 109, .val (.loadA 2 (.t 20)), some (105, true)⟩,
  ⟨some 110, .call (F 38) [(.t 108), (.t 109)], some (105, true)⟩,
  ⟨some 111, .val (.pand (.t 105) (.t 110)), none⟩,
  ⟨some 112, .val (.mov (.t 111)), none⟩,
  ⟨some 113, .call (F 29) [], some (112, true)⟩,
  ⟨some 114, .val (.pand (.t 112) (.t 113)), none⟩,
  ⟨some 10, .val (.mov (.t 114)), none⟩]
def law03_DiskTwice_c (F : Nat → Nat) : ACode :=
  (.seq
    (.reg law03_DiskTwice_r0 (some ([0, 1, 2, 3, 4], [54, 55, 59, 60])))
    (.seq
      (.reg (law03_DiskTwice_r1 F) (some ([0, 1, 2, 3, 4, 11, 12], [11, 54, 55, 59, 60])))
      (.seq
        (.reg law03_DiskTwice_r2 (some ([1, 2, 3, 4, 11, 12, 13], [11, 54, 55, 59, 60])))
        (.seq
          (.reg (law03_DiskTwice_r3 F) (some ([3, 4, 11, 12, 13, 14, 15], [11, 54, 55, 59, 60])))
          (.seq
            (.reg (law03_DiskTwice_r4 F) (some ([3, 4, 11, 12, 13, 14, 15, 16], [11, 54, 55, 59, 60])))
            (.seq
              (.reg (law03_DiskTwice_r5 F) (some ([3, 4, 11, 12, 13, 14, 15, 16, 17], [11, 54, 55, 59, 60])))
              (.seq
                (.reg law03_DiskTwice_r6 (some ([3, 4, 11, 12, 13, 14, 15, 16, 17, 18], [11, 54, 55, 59, 60])))
                (.seq
                  (.reg law03_DiskTwice_r7 (some ([3, 4, 11, 12, 13, 14, 15, 16, 17, 18, 19], [11, 54, 55, 59, 60])))
                  (.seq
                    (.seq
                      (.reg law03_DiskTwice_r8 (some ([4, 11, 12, 13, 14, 15, 16, 17, 18, 19, 52], [11, 54, 55, 59, 60])))
                      (.cond (.t 52)
                        (.reg law03_DiskTwice_r9 (some ([4, 11, 12, 13, 15, 16, 17, 18, 19], [11, 54, 55, 59, 60])))
                        .skip))
                    (.seq
                      (.seq
                        (.reg law03_DiskTwice_r10 (some ([11, 12, 13, 15, 16, 17, 18, 19, 57], [11, 54, 55, 59, 60])))
                        (.cond (.t 57)
                          (.reg law03_DiskTwice_r11 (some ([11, 12, 13, 15, 16, 17, 18, 19], [11, 54, 55, 59, 60])))
                          .skip))
                      (.seq
                        (.reg (law03_DiskTwice_r12 F) (some ([11, 12, 13, 15, 16, 17, 18, 19, 20], [11, 20, 54, 55, 59, 60])))
                        (.seq
                          (.reg (law03_DiskTwice_r13 F) (some ([11, 12, 13, 15, 16, 17, 18, 19, 20, 21, 22], [11, 20, 54, 55, 59, 60])))
                          (.seq
                            (.reg (law03_DiskTwice_r14 F) (some ([12, 15, 16, 17, 18, 19, 20, 21, 22, 23, 24], [20, 54, 55, 59, 60])))
                            (.seq
                              (.regD (law03_DiskTwice_r15 F) [(31, 32)] (some ([10], [54, 55, 59, 60])))
                              .ret))))))))))))))
def law03_DiskTwice_k (P : Program) (F : Nat → Nat) : Prop := chkFn P (F 39) 5 (law03_DiskTwice_c F) [10] = true

/- lockkeeper/lockkeeperlaw03.DiskExact : names 0 d, 1 at, 2 w, 3 keep, 4 d, 5 at, 6 w, 7 keep, 9 right, 10 s, 11 e, 12 p, 13 f, 14 there, 15 more uns [] -/
/- law.go:34 -/
def law03_DiskExact_r0 : List AOper := [
  ⟨some 4, .box 2 (.t 0), none⟩,
  ⟨some 6, .box 2 (.t 2), none⟩,
  ⟨some 8, .val (.mov (.k (.bool false))), none⟩]
/- law.go:35 -/
def law03_DiskExact_r1 (F : Nat → Nat) : List AOper := [
  ⟨some 16, .val (.loadA 2 (.t 4)), none⟩,
  ⟨some 17, .call (F 31) [(.t 16)], none⟩,
  ⟨some 18, .val (.not (.t 17)), none⟩,
  ⟨some 19, .val (.mov (.t 18)), none⟩,
  ⟨some 20, .val (.field 1 (.t 6)), some (19, false)⟩,
  ⟨some 21, .val (.load1 (.t 20)), some (19, false)⟩,
  ⟨some 22, .val (.lenT (.t 21)), some (19, false)⟩,
  ⟨some 23, .val (.bin .gtr false (.t 22) (.k (.int .i64 40))), some (19, false)⟩,
  ⟨some 24, .val (.por (.t 19) (.t 23)), none⟩,
  ⟨some 25, .val (.mov (.t 24)), none⟩,
  ⟨some 26, .val (.mov (.t 3)), some (25, false)⟩,
  ⟨some 27, .val (.lenS (.t 26)), some (25, false)⟩,
  ⟨some 28, .val (.bin .gtr false (.t 27) (.k (.int .i64 220))), some (25, false)⟩,
  ⟨some 29, .val (.por (.t 25) (.t 28)), none⟩]
/- law.go:36 -/
def law03_DiskExact_r2 (F : Nat → Nat) : List AOper := [
  ⟨some 30, .call (F 29) [], none⟩,
  ⟨some 8, .val (.mov (.t 30)), none⟩]
/- law.go:38 -/
def law03_DiskExact_r3 (F : Nat → Nat) : List AOper := [
  ⟨some 31, .val (.loadA 2 (.t 4)), none⟩,
  ⟨some 32, .call (F 32) [(.t 31)], none⟩,
  ⟨some 9, .val (.mov (.t 32)), none⟩]
/- law.go:39 -/
def law03_DiskExact_r4 (F : Nat → Nat) : List AOper := [
  ⟨some 34, .val (.loadA 2 (.t 4)), none⟩,
  ⟨some 35, .val (.mov (.t 1)), none⟩,
  ⟨some 36, .call (F 37) [(.t 34), (.t 35)], none⟩,
  ⟨some 33, .val (.mov (.t 36)), none⟩,
  ⟨some 37, .val (.extr 0 (.t 33)), none⟩,
  ⟨some 38, .val (.extr 1 (.t 33)), none⟩,
  ⟨some 10, .val (.mov (.t 37)), none⟩,
  ⟨some 11, .val (.mov (.t 38)), none⟩]
/- law.go:40 -/
def law03_DiskExact_r5 (F : Nat → Nat) : List AOper := [
  ⟨some 40, .val (.loadA 2 (.t 4)), none⟩,
  ⟨some 41, .val (.loadA 2 (.t 6)), none⟩,
  ⟨some 42, .call (F 36) [(.t 40), (.t 41)], none⟩,
  ⟨some 39, .val (.mov (.t 42)), none⟩,
  ⟨some 43, .val (.extr 0 (.t 39)), none⟩,
  ⟨some 44, .val (.extr 1 (.t 39)), none⟩,
  ⟨some 12, .alloc 2 [.nil 1, .nil 2], none⟩,
  ⟨none, .stA true 2 (.t 12) (.t 43), none⟩,
  ⟨some 13, .val (.mov (.t 44)), none⟩]
/- law.go:41 -/
def law03_DiskExact_r6 (F : Nat → Nat) : List AOper := [
  ⟨some 45, .val (.loadA 2 (.t 4)), none⟩,
  ⟨some 46, .call (F 40) [(.t 45)], none⟩,
  ⟨some 47, .val (.mov (.t 9)), none⟩,
  ⟨some 48, .val (.eqB true (.t 46) (.t 47)), none⟩]
/- law.go:42 -/
def law03_DiskExact_r7 : List AOper := [
  ⟨some 8, .val (.mov (.k (.bool false))), none⟩]
/- law.go:44 -/
def law03_DiskExact_r8 : List AOper := [
  ⟨some 49, .val (.mov (.t 9)), none⟩,
  ⟨some 50, .val (.not (.t 49)), none⟩]
/- law.go:45 DRAWS -/
def law03_DiskExact_r9 (F : Nat → Nat) : List AOper := [
  ⟨some 51, .val (.mov (.t 10)), none⟩,
  ⟨some 52, .val (.bin .eql false (.t 51) (.k (.str []))), none⟩,
  ⟨some 53, .val (.mov (.t 52)), none⟩,
  ⟨some 54, .val (.mov (.t 11)), some (53, true)⟩,
  ⟨some 55, .val (.bin .eql false (.t 54) (.k (.int .i64 1))), some (53, true)⟩,
  ⟨some 56, .val (.pand (.t 53) (.t 55)), none⟩,
  ⟨some 57, .val (.mov (.t 56)), none⟩,
  ⟨some 58, .val (.mov (.t 13)), some (57, true)⟩,
  ⟨some 59, .val (.bin .eql false (.t 58) (.k (.int .i64 1))), some (57, true)⟩,
  ⟨some 60, .val (.pand (.t 57) (.t 59)), none⟩,
  ⟨some 61, .val (.mov (.t 60)), none⟩,
  ⟨some 62, .val (.loadA 2 (.t 12)), some (61, true)⟩,
  ⟨some 63, .val (.loadA 2 (.t 4)), some (61, true)⟩,
  ⟨some 64, .call (F 38) [(.t 62), (.t 63)], some (61, true)⟩,
  ⟨some 65, .val (.pand (.t 61) (.t 64)), none⟩,
  ⟨some 66, .val (.mov (.t 65)), none⟩,
  ⟨some 67, .val (.loadA 2 (.t 4)), some (66, true)⟩,
  ⟨some 68, .call (F 41) [(.t 67)], some (66, true)⟩,
  ⟨some 69, .val (.loadA 2 (.t 4)), some (66, true)⟩,
  ⟨some 70, .call (F 38) [(.t 68), (.t 69)], some (66, true)⟩,
  ⟨some 71, .val (.pand (.t 66) (.t 70)), none⟩,
  ⟨some 72, .val (.mov (.t 71)), none⟩,
  ⟨some 73, .val (.loadA 2 (.t 4)), some (72, true)⟩,
  ⟨some 74, .val (.mov (.t 3)), some (72, true)⟩,
  ⟨some 75, .call (F 33) [(.t 73), (.t 74)], some (72, true)⟩,
  ⟨some 76, .val (.loadA 2 (.t 4)), some (72, true)⟩,
  ⟨some 77, .call (F 38) [(.t 75), (.t 76)], some (72, true)⟩,
  ⟨some 78, .val (.pand (.t 72) (.t 77)), none⟩,
  ⟨some 79, .val (.mov (.t 78)), none⟩,
  ⟨some 80, .call (F 29) [], some (79, true)⟩,
  ⟨some 81, .val (.pand (.t 79) (.t 80)), none⟩,
  ⟨some 8, .val (.mov (.t 81)), none⟩]
/- law.go:47 DRAWS -/
def law03_DiskExact_r10 (F : Nat → Nat) : List AOper := [
  ⟨some 82, .val (.loadA 2 (.t 4)), none⟩,
  ⟨some 83, .call (F 41) [(.t 82)], none⟩,
  ⟨some 84, .val (.loadA 2 (.t 4)), none⟩,
  ⟨some 85, .call (F 42) [(.t 84)], none⟩,
  ⟨some 86, .call (F 38) [(.t 83), (.t 85)], none⟩,
  ⟨some 87, .val (.not (.t 86)), none⟩,
  ⟨some 88, .val (.mov (.t 87)), none⟩,
  ⟨some 89, .val (.loadA 2 (.t 4)), some (88, false)⟩,
  ⟨some 90, .val (.mov (.t 3)), some (88, false)⟩,
  ⟨some 91, .call (F 33) [(.t 89), (.t 90)], some (88, false)⟩,
  ⟨some 92, .val (.loadA 2 (.t 4)), some (88, false)⟩,
  ⟨some 93, .val (.mov (.t 3)), some (88, false)⟩,
  ⟨some 94, .call (F 43) [(.t 92), (.t 93)], some (88, false)⟩,
  ⟨some 95, .call (F 38) [(.t 91), (.t 94)], some (88, false)⟩,
  ⟨some 96, .val (.not (.t 95)), some (88, false)⟩,
  ⟨some 97, .val (.por (.t 88) (.t 96)), none⟩]
/- law.go:48 -/
def law03_DiskExact_r11 : List AOper := [
  ⟨some 8, .val (.mov (.k (.bool false))), none⟩]
/- law.go:50 -/
def law03_DiskExact_r12 : List AOper := [
  ⟨some 98, .val (.mov (.t 1)), none⟩,
  ⟨some 99, .val (.bin .geq false (.t 98) (.k (.int .i64 0))), none⟩,
  ⟨some 100, .val (.mov (.t 99)), none⟩,
  ⟨some 101, .val (.mov (.t 1)), some (100, true)⟩,
  ⟨some 102, .val (.field 0 (.t 4)), some (100, true)⟩,
  ⟨some 103, .val (.load1 (.t 102)), some (100, true)⟩,
  ⟨some 104, .val (.lenS (.t 103)), some (100, true)⟩,
  ⟨some 105, .val (.bin .lss false (.t 101) (.t 104)), some (100, true)⟩,
  ⟨some 106, .val (.pand (.t 100) (.t 105)), none⟩,
  ⟨some 14, .val (.mov (.t 106)), none⟩]
/- law.go:51 -/
def law03_DiskExact_r13 (F : Nat → Nat) : List AOper := [
  ⟨some 107, .val (.mov (.t 14)), none⟩,
  ⟨some 108, .val (.mov (.t 107)), none⟩,
  ⟨some 109, .val (.mov (.t 10)), some (108, true)⟩,
  ⟨some 110, .val (.loadA 2 (.t 4)), some (108, true)⟩,
  ⟨some 111, .val (.mov (.t 1)), some (108, true)⟩,
  ⟨some 112, .call (F 44) [(.t 110), (.t 111)], some (108, true)⟩,
  ⟨some 113, .val (.bin .neq false (.t 109) (.t 112)), some (108, true)⟩,
  ⟨some 114, .val (.mov (.t 113)), some (108, true)⟩,
  ⟨some 115, .val (.mov (.t 11)), some (114, false)⟩,
  ⟨some 116, .val (.bin .neq false (.t 115) (.k (.int .i64 0))), some (114, false)⟩,
  ⟨some 117, .val (.por (.t 114) (.t 116)), some (108, true)⟩,
  ⟨some 118, .val (.pand (.t 108) (.t 117)), none⟩,
  ⟨some 119, .val (.mov (.t 118)), none⟩,
  ⟨some 120, .val (.mov (.t 14)), some (119, false)⟩,
  ⟨some 121, .val (.not (.t 120)), some (119, false)⟩,
  ⟨some 122, .val (.mov (.t 121)), some (119, false)⟩,
  ⟨some 123, .val (.mov (.t 10)), some (122, true)⟩,
  ⟨some 124, .val (.bin .neq false (.t 123) (.k (.str []))), some (122, true)⟩,
  ⟨some 125, .val (.mov (.t 124)), some (122, true)⟩,
  ⟨some 126, .val (.mov (.t 11)), some (125, false)⟩,
  ⟨some 127, .val (.bin .neq false (.t 126) (.k (.int .i64 1))), some (125, false)⟩,
  ⟨some 128, .val (.por (.t 125) (.t 127)), some (122, true)⟩,
  ⟨some 129, .val (.pand (.t 122) (.t 128)), some (119, false)⟩,
  ⟨some 130, .val (.por (.t 119) (.t 129)), none⟩]
/- law.go:52 -/
def law03_DiskExact_r14 : List AOper := [
  ⟨some 8, .val (.mov (.k (.bool false))), none⟩]
/- law.go:54 -/
def law03_DiskExact_r15 : List AOper := [
  ⟨some 131, .val (.field 0 (.t 6)), none⟩,
  ⟨some 132, .val (.load1 (.t 131)), none⟩,
  ⟨some 133, .val (.bin .lss false (.t 132) (.k (.int .i64 0))), none⟩,
  ⟨some 134, .val (.mov (.t 133)), none⟩,
  ⟨some 135, .val (.field 0 (.t 6)), some (134, false)⟩,
  ⟨some 136, .val (.load1 (.t 135)), some (134, false)⟩,
  ⟨some 137, .val (.field 0 (.t 4)), some (134, false)⟩,
  ⟨some 138, .val (.load1 (.t 137)), some (134, false)⟩,
  ⟨some 139, .val (.lenS (.t 138)), some (134, false)⟩,
  ⟨some 140, .val (.bin .geq false (.t 136) (.t 139)), some (134, false)⟩,
  ⟨some 141, .val (.por (.t 134) (.t 140)), none⟩,
  ⟨some 142, .val (.mov (.t 141)), none⟩,
  ⟨some 143, .val (.field 1 (.t 6)), some (142, false)⟩,
  ⟨some 144, .val (.load1 (.t 143)), some (142, false)⟩,
  ⟨some 145, .val (.lenT (.t 144)), some (142, false)⟩,
  ⟨some 146, .val (.bin .neq false (.t 145) (.k (.int .i64 16))), some (142, false)⟩,
  ⟨some 147, .val (.por (.t 142) (.t 146)), none⟩]
/- law.go:55 -/
def law03_DiskExact_r16 (F : Nat → Nat) : List AOper := [
  ⟨some 148, .val (.mov (.t 13)), none⟩,
  ⟨some 149, .val (.bin .eql false (.t 148) (.k (.int .i64 1))), none⟩,
  ⟨some 150, .val (.mov (.t 149)), none⟩,
  ⟨some 151, .val (.loadA 2 (.t 12)), some (150, true)⟩,
  ⟨some 152, .val (.loadA 2 (.t 4)), some (150, true)⟩,
  ⟨some 153, .call (F 38) [(.t 151), (.t 152)], some (150, true)⟩,
  ⟨some 154, .val (.pand (.t 150) (.t 153)), none⟩,
  ⟨some 155, .val (.mov (.t 154)), none⟩,
  ⟨some 156, .call (F 29) [], some (155, true)⟩,
  ⟨some 157, .val (.pand (.t 155) (.t 156)), none⟩,
  ⟨some 8, .val (.mov (.t 157)), none⟩]
/- law.go:57 -/
def law03_DiskExact_r17 : List AOper := [
  ⟨some 158, .val (.field 1 (.t 4)), none⟩,
  ⟨some 159, .val (.load1 (.t 158)), none⟩,
  ⟨some 160, .val (.lenS (.t 159)), none⟩,
  ⟨some 161, .val (.bin .eql false (.t 160) (.k (.int .i64 200))), none⟩]
/- law.go:58 -/
def law03_DiskExact_r18 (F : Nat → Nat) : List AOper := [
  ⟨some 162, .val (.mov (.t 13)), none⟩,
  ⟨some 163, .val (.bin .eql false (.t 162) (.k (.int .i64 7))), none⟩,
  ⟨some 164, .val (.mov (.t 163)), none⟩,
  ⟨some 165, .val (.loadA 2 (.t 12)), some (164, true)⟩,
  ⟨some 166, .val (.loadA 2 (.t 4)), some (164, true)⟩,
  ⟨some 167, .call (F 38) [(.t 165), (.t 166)], some (164, true)⟩,
  ⟨some 168, .val (.pand (.t 164) (.t 167)), none⟩,
  ⟨some 169, .val (.mov (.t 168)), none⟩,
  ⟨some 170, .call (F 29) [], some (169, true)⟩,
  ⟨some 171, .val (.pand (.t 169) (.t 170)), none⟩,
  ⟨some 8, .val (.mov (.t 171)), none⟩]
/- law.go:60 DRAWS -/
def law03_DiskExact_r19 : List AOper := [
  ⟨some 172, .val (.field 0 (.t 4)), none⟩,
  ⟨some 173, .val (.load1 (.t 172)), none⟩,
  ⟨some 174, .buildS 2 0 [.int .i64 0, .str []] [], none⟩,
  ⟨some 175, .val (.field 1 (.t 4)), none⟩,
  ⟨some 176, .val (.load1 (.t 175)), none⟩,
  ⟨some 177, .app 2 24 (.t 174) (.t 176), none⟩,
  ⟨some 178, .val (.loadA 2 (.t 6)), none⟩,
  ⟨some 179, .buildS 2 1 [.int .i64 0, .str []] [(0, (.t 178))], none⟩,
  ⟨some 180, .app 2 24 (.t 177) (.t 179), none⟩,
  ⟨some 181, .val (.build 2 [.nil 1, .nil 2] [(0, 1, (.t 173)), (1, 1, (.t 180))]), none⟩,
  ⟨some 15, .alloc 2 [.nil 1, .nil 2], none⟩,
  ⟨none, .stA true 2 (.t 15) (.t 181), none⟩]
/- law.go:61 -/
def law03_DiskExact_r20 (F : Nat → Nat) : List AOper := [
  ⟨some 182, .val (.mov (.t 13)), none⟩,
  ⟨some 183, .val (.bin .eql false (.t 182) (.k (.int .i64 0))), none⟩,
  ⟨some 184, .val (.mov (.t 183)), none⟩,
  ⟨some 185, .val (.loadA 2 (.t 12)), some (184, true)⟩,
  ⟨some 186, .val (.loadA 2 (.t 15)), some (184, true)⟩,
  ⟨some 187, .call (F 38) [(.t 185), (.t 186)], some (184, true)⟩,
  ⟨some 188, .val (.pand (.t 184) (.t 187)), none⟩,
  ⟨some 189, .val (.mov (.t 188)), none⟩,
  ⟨some 190, .call (F 29) [], some (189, true)⟩,
  ⟨some 191, .val (.pand (.t 189) (.t 190)), none⟩,
  ⟨some 8, .val (.mov (.t 191)), none⟩]
def law03_DiskExact_c (F : Nat → Nat) : ACode :=
  (.seq
    (.reg law03_DiskExact_r0 (some ([1, 3, 4, 6], [4, 6, 174, 177, 179, 180])))
    (.seq
      (.seq
        (.reg (law03_DiskExact_r1 F) (some ([1, 3, 4, 6, 29], [4, 6, 174, 177, 179, 180])))
        (.cond (.t 29)
          (.seq
            (.reg (law03_DiskExact_r2 F) (some ([8], [174, 177, 179, 180])))
            .ret)
          .skip))
      (.seq
        (.reg (law03_DiskExact_r3 F) (some ([1, 3, 4, 6, 9], [4, 6, 174, 177, 179, 180])))
        (.seq
          (.reg (law03_DiskExact_r4 F) (some ([1, 3, 4, 6, 9, 10, 11], [4, 6, 174, 177, 179, 180])))
          (.seq
            (.reg (law03_DiskExact_r5 F) (some ([1, 3, 4, 6, 9, 10, 11, 12, 13], [4, 6, 12, 174, 177, 179, 180])))
            (.seq
              (.seq
                (.reg (law03_DiskExact_r6 F) (some ([1, 3, 4, 6, 9, 10, 11, 12, 13, 48], [4, 6, 12, 174, 177, 179, 180])))
                (.cond (.t 48)
                  (.seq
                    (.reg law03_DiskExact_r7 (some ([8], [174, 177, 179, 180])))
                    .ret)
                  .skip))
              (.seq
                (.seq
                  (.reg law03_DiskExact_r8 (some ([1, 3, 4, 6, 10, 11, 12, 13, 50], [4, 6, 12, 174, 177, 179, 180])))
                  (.cond (.t 50)
                    (.seq
                      (.regD (law03_DiskExact_r9 F) [(17, 18), (24, 25)] (some ([8], [174, 177, 179, 180])))
                      .ret)
                    .skip))
                (.seq
                  (.seq
                    (.regD (law03_DiskExact_r10 F) [(1, 2), (9, 10), (9, 11)] (some ([1, 4, 6, 10, 11, 12, 13, 97], [4, 6, 12, 174, 177, 179, 180])))
                    (.cond (.t 97)
                      (.seq
                        (.reg law03_DiskExact_r11 (some ([8], [174, 177, 179, 180])))
                        .ret)
                      .skip))
                  (.seq
                    (.reg law03_DiskExact_r12 (some ([1, 4, 6, 10, 11, 12, 13, 14], [4, 6, 12, 174, 177, 179, 180])))
                    (.seq
                      (.seq
                        (.reg (law03_DiskExact_r13 F) (some ([4, 6, 12, 13, 130], [4, 6, 12, 174, 177, 179, 180])))
                        (.cond (.t 130)
                          (.seq
                            (.reg law03_DiskExact_r14 (some ([8], [174, 177, 179, 180])))
                            .ret)
                          .skip))
                      (.seq
                        (.seq
                          (.reg law03_DiskExact_r15 (some ([4, 6, 12, 13, 147], [4, 6, 12, 174, 177, 179, 180])))
                          (.cond (.t 147)
                            (.seq
                              (.reg (law03_DiskExact_r16 F) (some ([8], [174, 177, 179, 180])))
                              .ret)
                            .skip))
                        (.seq
                          (.seq
                            (.reg law03_DiskExact_r17 (some ([4, 6, 12, 13, 161], [4, 6, 12, 174, 177, 179, 180])))
                            (.cond (.t 161)
                              (.seq
                                (.reg (law03_DiskExact_r18 F) (some ([8], [174, 177, 179, 180])))
                                .ret)
                              .skip))
                          (.seq
                            (.regD law03_DiskExact_r19 [(0, 2), (1, 2), (2, 3), (2, 4), (0, 5), (1, 5), (2, 6), (5, 6), (0, 7), (1, 7), (2, 7), (3, 7), (4, 7), (5, 7), (0, 8), (1, 8), (0, 10), (1, 10), (2, 10), (3, 10), (4, 10), (5, 10), (6, 10), (7, 10), (8, 10), (9, 10)] (some ([12, 13, 15], [12, 15, 174, 177, 179, 180])))
                            (.seq
                              (.reg (law03_DiskExact_r20 F) (some ([8], [174, 177, 179, 180])))
                              .ret))))))))))))))
def law03_DiskExact_k (P : Program) (F : Nat → Nat) : Prop := chkFn P (F 45) 4 (law03_DiskExact_c F) [8] = true

/- lockkeeper/lockkeeperlaw03.DiskCalm : names 0 d, 1 keep, 2 d, 3 keep, 5 s, 6 all, 7 i, 8 at, 9 x, 10 e, 11 y, 12 f uns [] -/
/- law.go:65 -/
def law03_DiskCalm_r0 : List AOper := [
  ⟨some 2, .box 2 (.t 0), none⟩,
  ⟨some 4, .val (.mov (.k (.bool false))), none⟩]
/- law.go:66 -/
def law03_DiskCalm_r1 (F : Nat → Nat) : List AOper := [
  ⟨some 13, .val (.loadA 2 (.t 2)), none⟩,
  ⟨some 14, .call (F 31) [(.t 13)], none⟩,
  ⟨some 15, .val (.not (.t 14)), none⟩,
  ⟨some 16, .val (.mov (.t 15)), none⟩,
  ⟨some 17, .val (.mov (.t 1)), some (16, false)⟩,
  ⟨some 18, .val (.lenS (.t 17)), some (16, false)⟩,
  ⟨some 19, .val (.bin .gtr false (.t 18) (.k (.int .i64 220))), some (16, false)⟩,
  ⟨some 20, .val (.por (.t 16) (.t 19)), none⟩,
  ⟨some 21, .val (.mov (.t 20)), none⟩,
  ⟨some 22, .val (.loadA 2 (.t 2)), some (21, false)⟩,
  ⟨some 23, .call (F 32) [(.t 22)], some (21, false)⟩,
  ⟨some 24, .val (.not (.t 23)), some (21, false)⟩,
  ⟨some 25, .val (.por (.t 21) (.t 24)), none⟩]
/- law.go:67 -/
def law03_DiskCalm_r2 (F : Nat → Nat) : List AOper := [
  ⟨some 26, .call (F 29) [], none⟩,
  ⟨some 4, .val (.mov (.t 26)), none⟩]
/- law.go:69 -/
def law03_DiskCalm_r3 (F : Nat → Nat) : List AOper := [
  ⟨some 27, .val (.loadA 2 (.t 2)), none⟩,
  ⟨some 28, .call (F 41) [(.t 27)], none⟩,
  ⟨some 5, .alloc 2 [.nil 1, .nil 2], none⟩,
  ⟨none, .stA true 2 (.t 5) (.t 28), none⟩]
/- law.go:70 -/
def law03_DiskCalm_r4 : List AOper := [
  ⟨some 6, .val (.mov (.k (.nil 1))), none⟩]
/- law.go:71 -/
def law03_DiskCalm_r5 : List AOper := [
  ⟨some 29, .val (.field 1 (.t 2)), none⟩,
  ⟨some 30, .val (.load1 (.t 29)), none⟩,
  ⟨some 31, .val (.lenS (.t 30)), none⟩,
  ⟨some 32, .val (.mov (.k (.int .i64 0))), none⟩]
/- law.go:71 -/
def law03_DiskCalm_r6 : List AOper := [
  ⟨some 33, .val (.bin .lss false (.t 32) (.t 31)), none⟩]
/- law.go:71 -/
def law03_DiskCalm_r7 : List AOper := [
  ⟨some 34, .val (.mov (.t 32)), none⟩,
  ⟨some 7, .val (.mov (.t 34)), none⟩]
/- law.go:72 -/
def law03_DiskCalm_r8 : List AOper := [
  ⟨some 35, .val (.mov (.t 6)), none⟩,
  ⟨some 36, .val (.mov (.t 7)), none⟩,
  ⟨some 37, .buildS 1 1 [.int .i64 0] [(0, (.t 36))], none⟩,
  ⟨some 38, .app 1 8 (.t 35) (.t 37), none⟩,
  ⟨some 6, .val (.mov (.t 38)), none⟩]
/- law.go:71 -/
def law03_DiskCalm_r9 : List AOper := [
  ⟨some 39, .val (.bin .add true (.t 32) (.k (.int .i64 1))), none⟩,
  ⟨some 32, .val (.mov (.t 39)), none⟩]
/- law.go:74 -/
def law03_DiskCalm_r10 : List AOper := [
  ⟨some 40, .val (.field 0 (.t 2)), none⟩,
  ⟨some 41, .val (.load1 (.t 40)), none⟩,
  ⟨some 42, .val (.lenS (.t 41)), none⟩,
  ⟨some 43, .val (.mov (.k (.int .i64 0))), none⟩]
/- law.go:74 -/
def law03_DiskCalm_r11 : List AOper := [
  ⟨some 44, .val (.bin .lss false (.t 43) (.t 42)), none⟩]
/- law.go:74 -/
def law03_DiskCalm_r12 : List AOper := [
  ⟨some 45, .val (.mov (.t 43)), none⟩,
  ⟨some 8, .val (.mov (.t 45)), none⟩]
/- law.go:75 -/
def law03_DiskCalm_r13 (F : Nat → Nat) : List AOper := [
  ⟨some 47, .val (.loadA 2 (.t 2)), none⟩,
  ⟨some 48, .val (.mov (.t 8)), none⟩,
  ⟨some 49, .call (F 37) [(.t 47), (.t 48)], none⟩,
  ⟨some 46, .val (.mov (.t 49)), none⟩,
  ⟨some 50, .val (.extr 0 (.t 46)), none⟩,
  ⟨some 51, .val (.extr 1 (.t 46)), none⟩,
  ⟨some 9, .val (.mov (.t 50)), none⟩,
  ⟨some 10, .val (.mov (.t 51)), none⟩]
/- law.go:76 -/
def law03_DiskCalm_r14 (F : Nat → Nat) : List AOper := [
  ⟨some 53, .val (.loadA 2 (.t 5)), none⟩,
  ⟨some 54, .val (.mov (.t 8)), none⟩,
  ⟨some 55, .call (F 37) [(.t 53), (.t 54)], none⟩,
  ⟨some 52, .val (.mov (.t 55)), none⟩,
  ⟨some 56, .val (.extr 0 (.t 52)), none⟩,
  ⟨some 57, .val (.extr 1 (.t 52)), none⟩,
  ⟨some 11, .val (.mov (.t 56)), none⟩,
  ⟨some 12, .val (.mov (.t 57)), none⟩]
/- law.go:77 -/
def law03_DiskCalm_r15 : List AOper := [
  ⟨some 58, .val (.mov (.t 9)), none⟩,
  ⟨some 59, .val (.mov (.t 11)), none⟩,
  ⟨some 60, .val (.bin .neq false (.t 58) (.t 59)), none⟩,
  ⟨some 61, .val (.mov (.t 60)), none⟩,
  ⟨some 62, .val (.mov (.t 10)), some (61, false)⟩,
  ⟨some 63, .val (.bin .neq false (.t 62) (.k (.int .i64 0))), some (61, false)⟩,
  ⟨some 64, .val (.por (.t 61) (.t 63)), none⟩,
  ⟨some 65, .val (.mov (.t 64)), none⟩,
  ⟨some 66, .val (.mov (.t 12)), some (65, false)⟩,
  ⟨some 67, .val (.bin .neq false (.t 66) (.k (.int .i64 0))), some (65, false)⟩,
  ⟨some 68, .val (.por (.t 65) (.t 67)), none⟩]
/- law.go:78 -/
def law03_DiskCalm_r16 : List AOper := [
  ⟨some 4, .val (.mov (.k (.bool false))), none⟩]
/- law.go:74 -/
def law03_DiskCalm_r17 : List AOper := [
  ⟨some 69, .val (.bin .add true (.t 43) (.k (.int .i64 1))), none⟩,
  ⟨some 43, .val (.mov (.t 69)), none⟩]
/- law.go:81 DRAWS -/
def law03_DiskCalm_r18 (F : Nat → Nat) : List AOper := [
  ⟨some 70, .val (.loadA 2 (.t 5)), none⟩,
  ⟨some 71, .val (.mov (.t 1)), none⟩,
  ⟨some 72, .call (F 33) [(.t 70), (.t 71)], none⟩,
  ⟨some 73, .val (.loadA 2 (.t 5)), none⟩,
  ⟨some 74, .call (F 38) [(.t 72), (.t 73)], none⟩,
  ⟨some 75, .val (.mov (.t 74)), none⟩,
  ⟨some 76, .val (.loadA 2 (.t 2)), some (75, true)⟩,
  ⟨some 77, .val (.mov (.t 6)), some (75, true)⟩,
  ⟨some 78, .call (F 33) [(.t 76), (.t 77)], some (75, true)⟩,
  ⟨some 79, .val (.loadA 2 (.t 5)), some (75, true)⟩,
  ⟨some 80, .call (F 38) [(.t 78), (.t 79)], some (75, true)⟩,
  ⟨some 81, .val (.pand (.t 75) (.t 80)), none⟩,
  ⟨some 82, .val (.mov (.t 81)), none⟩,
  ⟨some 83, .val (.field 1 (.t 5)), some (82, true)⟩,
  ⟨some 84, .val (.load1 (.t 83)), some (82, true)⟩,
  ⟨some 85, .val (.lenS (.t 84)), some (82, true)⟩,
  ⟨some 86, .val (.bin .eql false (.t 85) (.k (.int .i64 0))), some (82, true)⟩,
  ⟨some 87, .val (.pand (.t 82) (.t 86)), none⟩,
  ⟨some 88, .val (.mov (.t 87)), none⟩,
  ⟨some 89, .call (F 29) [], some (88, true)⟩,
  ⟨some 90, .val (.pand (.t 88) (.t 89)), none⟩,
  ⟨some 4, .val (.mov (.t 90)), none⟩]
def law03_DiskCalm_c (F : Nat → Nat) : ACode :=
  (.seq
    (.reg law03_DiskCalm_r0 (some ([1, 2], [2, 37, 38])))
    (.seq
      (.seq
        (.reg (law03_DiskCalm_r1 F) (some ([1, 2, 25], [2, 37, 38])))
        (.cond (.t 25)
          (.seq
            (.reg (law03_DiskCalm_r2 F) (some ([4], [37, 38])))
            .ret)
          .skip))
      (.seq
        (.reg (law03_DiskCalm_r3 F) (some ([1, 2, 5], [2, 5, 37, 38])))
        (.seq
          (.reg law03_DiskCalm_r4 (some ([1, 2, 5, 6], [2, 5, 37, 38])))
          (.seq
            (.seq
              (.reg law03_DiskCalm_r5 (some ([1, 2, 5, 6, 31, 32], [2, 5, 37, 38])))
              (.block 0
                (.loop
                  (.seq
                    (.reg law03_DiskCalm_r6 (some ([1, 2, 5, 6, 31, 32, 33], [2, 5, 37, 38])))
                    (.seq
                      (.cond (.t 33)
                        .skip
                        (.exit 0))
                      (.seq
                        (.block 1
                          (.seq
                            (.reg law03_DiskCalm_r7 (some ([1, 2, 5, 6, 7, 31, 32], [2, 5, 37, 38])))
                            (.reg law03_DiskCalm_r8 (some ([1, 2, 5, 6, 31, 32], [2, 5, 37, 38])))))
                        (.reg law03_DiskCalm_r9 (some ([1, 2, 5, 6, 31, 32], [2, 5, 37, 38])))))))))
            (.seq
              (.seq
                (.reg law03_DiskCalm_r10 (some ([1, 2, 5, 6, 42, 43], [2, 5, 37, 38])))
                (.block 2
                  (.loop
                    (.seq
                      (.reg law03_DiskCalm_r11 (some ([1, 2, 5, 6, 42, 43, 44], [2, 5, 37, 38])))
                      (.seq
                        (.cond (.t 44)
                          .skip
                          (.exit 2))
                        (.seq
                          (.block 3
                            (.seq
                              (.reg law03_DiskCalm_r12 (some ([1, 2, 5, 6, 8, 42, 43], [2, 5, 37, 38])))
                              (.seq
                                (.reg (law03_DiskCalm_r13 F) (some ([1, 2, 5, 6, 8, 9, 10, 42, 43], [2, 5, 37, 38])))
                                (.seq
                                  (.reg (law03_DiskCalm_r14 F) (some ([1, 2, 5, 6, 9, 10, 11, 12, 42, 43], [2, 5, 37, 38])))
                                  (.seq
                                    (.reg law03_DiskCalm_r15 (some ([1, 2, 5, 6, 42, 43, 68], [2, 5, 37, 38])))
                                    (.cond (.t 68)
                                      (.seq
                                        (.reg law03_DiskCalm_r16 (some ([4], [37, 38])))
                                        .ret)
                                      .skip))))))
                          (.reg law03_DiskCalm_r17 (some ([1, 2, 5, 6, 42, 43], [2, 5, 37, 38])))))))))
              (.seq
                (.regD (law03_DiskCalm_r18 F) [(2, 3), (8, 9)] (some ([4], [37, 38])))
                .ret)))))))
def law03_DiskCalm_k (P : Program) (F : Nat → Nat) : Prop := chkFn P (F 46) 2 (law03_DiskCalm_c F) [4] = true

/- lockkeeper/lockkeeperlaw03.DiskFull : names 0 sectors, 1 sectors, 3 d, 4 e, 5 i, 6 k, 7 f, 8 k, 9 f, 10 _, 11 g uns [] -/
/- law.go:136 -/
def law03_DiskFull_r0 : List AOper := [
  ⟨some 2, .val (.mov (.k (.bool false))), none⟩]
/- law.go:137 -/
def law03_DiskFull_r1 (F : Nat → Nat) : List AOper := [
  ⟨some 13, .val (.mov (.t 0)), none⟩,
  ⟨some 14, .val (.bin .rem true (.t 13) (.k (.int .u8 64))), none⟩,
  ⟨some 15, .val (.conv true .i64 (.t 14)), none⟩,
  ⟨some 16, .val (.bin .add true (.k (.int .i64 1)) (.t 15)), none⟩,
  ⟨some 17, .call (F 28) [(.t 16)], none⟩,
  ⟨some 12, .val (.mov (.t 17)), none⟩,
  ⟨some 18, .val (.extr 0 (.t 12)), none⟩,
  ⟨some 19, .val (.extr 1 (.t 12)), none⟩,
  ⟨some 3, .alloc 2 [.nil 1, .nil 2], none⟩,
  ⟨none, .stA true 2 (.t 3) (.t 18), none⟩,
  ⟨some 4, .val (.mov (.t 19)), none⟩]
/- law.go:138 -/
def law03_DiskFull_r2 : List AOper := [
  ⟨some 20, .val (.mov (.k (.int .i64 0))), none⟩]
/- law.go:138 -/
def law03_DiskFull_r3 : List AOper := [
  ⟨some 21, .val (.bin .lss false (.t 20) (.k (.int .i64 200))), none⟩]
/- law.go:138 -/
def law03_DiskFull_r4 : List AOper := [
  ⟨some 22, .val (.mov (.t 20)), none⟩,
  ⟨some 5, .val (.mov (.t 22)), none⟩]
/- law.go:139 DRAWS -/
def law03_DiskFull_r5 (F : Nat → Nat) : List AOper := [
  ⟨some 24, .val (.loadA 2 (.t 3)), none⟩,
  ⟨some 25, .val (.mov (.t 5)), none⟩,
  ⟨some 26, .val (.field 0 (.t 3)), none⟩,
  ⟨some 27, .val (.load1 (.t 26)), none⟩,
  ⟨some 28, .val (.lenS (.t 27)), none⟩,
  ⟨some 29, .val (.mm true (.t 28) [(.k (.int .i64 1))]), none⟩,
  ⟨some 30, .val (.bin .rem true (.t 25) (.t 29)), none⟩,
  ⟨some 31, .val (.mov (.t 5)), none⟩,
  ⟨some 32, .val (.conv false .u8 (.t 31)), none⟩,
  ⟨some 33, .call (F 35) [(.t 32)], none⟩,
  ⟨some 34, .val (.build 2 [.int .i64 0, .str []] [(0, 1, (.t 30)), (1, 1, (.t 33))]), none⟩,
  ⟨some 35, .call (F 36) [(.t 24), (.t 34)], none⟩,
  ⟨some 23, .val (.mov (.t 35)), none⟩,
  ⟨some 36, .val (.extr 0 (.t 23)), none⟩,
  ⟨some 37, .val (.extr 1 (.t 23)), none⟩,
  ⟨some 6, .alloc 2 [.nil 1, .nil 2], none⟩,
  ⟨none, .stA true 2 (.t 6) (.t 36), none⟩,
  ⟨some 7, .val (.mov (.t 37)), none⟩]
/- law.go:140 -/
def law03_DiskFull_r6 : List AOper := [
  ⟨some 38, .val (.mov (.t 7)), none⟩,
  ⟨some 39, .val (.bin .neq false (.t 38) (.k (.int .i64 0))), none⟩]
/- law.go:141 -/
def law03_DiskFull_r7 : List AOper := [
  ⟨some 2, .val (.mov (.k (.bool false))), none⟩]
/- law.go:143 -/
def law03_DiskFull_r8 : List AOper := [
  ⟨some 40, .val (.loadA 2 (.t 6)), none⟩,
  ⟨none, .stA true 2 (.t 3) (.t 40), none⟩]
/- law.go:138 -/
def law03_DiskFull_r9 : List AOper := [
  ⟨some 41, .val (.bin .add true (.t 20) (.k (.int .i64 1))), none⟩,
  ⟨some 20, .val (.mov (.t 41)), none⟩]
/- law.go:145 DRAWS -/
def law03_DiskFull_r10 (F : Nat → Nat) : List AOper := [
  ⟨some 43, .val (.loadA 2 (.t 3)), none⟩,
  ⟨some 44, .call (F 35) [(.k (.int .u8 1))], none⟩,
  ⟨some 45, .val (.build 2 [.int .i64 0, .str []] [(1, 1, (.t 44))]), none⟩,
  ⟨some 46, .call (F 36) [(.t 43), (.t 45)], none⟩,
  ⟨some 42, .val (.mov (.t 46)), none⟩,
  ⟨some 47, .val (.extr 0 (.t 42)), none⟩,
  ⟨some 48, .val (.extr 1 (.t 42)), none⟩,
  ⟨some 8, .alloc 2 [.nil 1, .nil 2], none⟩,
  ⟨none, .stA true 2 (.t 8) (.t 47), none⟩,
  ⟨some 9, .val (.mov (.t 48)), none⟩]
/- law.go:146 -/
def law03_DiskFull_r11 (F : Nat → Nat) : List AOper := [
  ⟨some 50, .val (.loadA 2 (.t 3)), none⟩,
  ⟨some 51, .call (F 41) [(.t 50)], none⟩,
  ⟨some 52, .call (F 35) [(.k (.int .u8 1))], none⟩,
  ⟨some 53, .val (.build 2 [.int .i64 0, .str []] [(1, 1, (.t 52))]), none⟩,
  ⟨some 54, .call (F 36) [(.t 51), (.t 53)], none⟩,
  ⟨some 49, .val (.mov (.t 54)), none⟩,
  ⟨some 55, .val (.extr 0 (.t 49)), none⟩,
  ⟨some 56, .val (.extr 1 (.t 49)), none⟩,
  ⟨some 10, .alloc 2 [.nil 1, .nil 2], none⟩,
  ⟨none, .stA true 2 (.t 10) (.t 55), none⟩,
  ⟨some 11, .val (.mov (.t 56)), none⟩]
/- law.go:147 -/
def law03_DiskFull_r12 (F : Nat → Nat) : List AOper := [
  ⟨some 57, .val (.mov (.t 4)), none⟩,
  ⟨some 58, .val (.bin .eql false (.t 57) (.k (.int .i64 0))), none⟩,
  ⟨some 59, .val (.mov (.t 58)), none⟩,
  ⟨some 60, .val (.mov (.t 9)), some (59, true)⟩,
  ⟨some 61, .val (.bin .eql false (.t 60) (.k (.int .i64 7))), some (59, true)⟩,
  ⟨some 62, .val (.pand (.t 59) (.t 61)), none⟩,
  ⟨some 63, .val (.mov (.t 62)), none⟩,
  ⟨some 64, .val (.field 1 (.t 8)), some (63, true)⟩,
  ⟨some 65, .val (.load1 (.t 64)), some (63, true)⟩,
  ⟨some 66, .val (.lenS (.t 65)), some (63, true)⟩,
  ⟨some 67, .val (.bin .eql false (.t 66) (.k (.int .i64 200))), some (63, true)⟩,
  ⟨some 68, .val (.pand (.t 63) (.t 67)), none⟩,
  ⟨some 69, .val (.mov (.t 68)), none⟩,
  ⟨some 70, .val (.mov (.t 11)), some (69, true)⟩,
  ⟨some 71, .val (.bin .eql false (.t 70) (.k (.int .i64 0))), some (69, true)⟩,
  ⟨some 72, .val (.pand (.t 69) (.t 71)), none⟩,
  ⟨some 73, .val (.mov (.t 72)), none⟩,
  ⟨some 74, .call (F 29) [], some (73, true)⟩,
  ⟨some 75, .val (.pand (.t 73) (.t 74)), none⟩,
  ⟨some 2, .val (.mov (.t 75)), none⟩]
def law03_DiskFull_c (F : Nat → Nat) : ACode :=
  (.seq
    (.reg law03_DiskFull_r0 (some ([0], [])))
    (.seq
      (.reg (law03_DiskFull_r1 F) (some ([3, 4], [3])))
      (.seq
        (.seq
          (.reg law03_DiskFull_r2 (some ([3, 4, 20], [3])))
          (.block 0
            (.loop
              (.seq
                (.reg law03_DiskFull_r3 (some ([3, 4, 20, 21], [3])))
                (.seq
                  (.cond (.t 21)
                    .skip
                    (.exit 0))
                  (.seq
                    (.block 1
                      (.seq
                        (.reg law03_DiskFull_r4 (some ([3, 4, 5, 20], [3])))
                        (.seq
                          (.regD (law03_DiskFull_r5 F) [(0, 9), (1, 9), (2, 9), (3, 9), (4, 9), (5, 9), (6, 9), (0, 15), (1, 15), (2, 15), (3, 15), (4, 15), (5, 15), (6, 15), (7, 15), (8, 15), (9, 15), (10, 15), (11, 15), (12, 15), (13, 15), (14, 15), (14, 16)] (some ([3, 4, 6, 7, 20], [3, 6])))
                          (.seq
                            (.seq
                              (.reg law03_DiskFull_r6 (some ([3, 4, 6, 20, 39], [3, 6])))
                              (.cond (.t 39)
                                (.seq
                                  (.reg law03_DiskFull_r7 (some ([2], [])))
                                  .ret)
                                .skip))
                            (.reg law03_DiskFull_r8 (some ([3, 4, 20], [3])))))))
                    (.reg law03_DiskFull_r9 (some ([3, 4, 20], [3])))))))))
        (.seq
          (.regD (law03_DiskFull_r10 F) [(0, 1), (0, 7), (1, 7), (2, 7), (3, 7), (4, 7), (5, 7), (6, 7), (6, 8)] (some ([3, 4, 8, 9], [3, 8])))
          (.seq
            (.reg (law03_DiskFull_r11 F) (some ([4, 8, 9, 11], [8])))
            (.seq
              (.reg (law03_DiskFull_r12 F) (some ([2], [])))
              .ret))))))
def law03_DiskFull_k (P : Program) (F : Nat → Nat) : Prop := chkFn P (F 47) 1 (law03_DiskFull_c F) [2] = true

/- lockkeeper/lockkeeperlaw03.DiskReads : names 0 d, 1 w, 2 d, 3 w, 5 p, 6 e, 7 s, 8 at, 9 was, 10 f, 11 now, 12 g, 13 then, 14 h uns [] -/
/- law.go:151 -/
def law03_DiskReads_r0 : List AOper := [
  ⟨some 2, .box 2 (.t 0), none⟩,
  ⟨some 3, .box 2 (.t 1), none⟩,
  ⟨some 4, .val (.mov (.k (.bool false))), none⟩]
/- law.go:152 -/
def law03_DiskReads_r1 (F : Nat → Nat) : List AOper := [
  ⟨some 15, .val (.loadA 2 (.t 2)), none⟩,
  ⟨some 16, .call (F 31) [(.t 15)], none⟩,
  ⟨some 17, .val (.not (.t 16)), none⟩,
  ⟨some 18, .val (.mov (.t 17)), none⟩,
  ⟨some 19, .val (.loadA 2 (.t 2)), some (18, false)⟩,
  ⟨some 20, .call (F 32) [(.t 19)], some (18, false)⟩,
  ⟨some 21, .val (.not (.t 20)), some (18, false)⟩,
  ⟨some 22, .val (.por (.t 18) (.t 21)), none⟩,
  ⟨some 23, .val (.mov (.t 22)), none⟩,
  ⟨some 24, .val (.field 1 (.t 3)), some (23, false)⟩,
  ⟨some 25, .val (.load1 (.t 24)), some (23, false)⟩,
  ⟨some 26, .val (.lenT (.t 25)), some (23, false)⟩,
  ⟨some 27, .val (.bin .gtr false (.t 26) (.k (.int .i64 40))), some (23, false)⟩,
  ⟨some 28, .val (.por (.t 23) (.t 27)), none⟩]
/- law.go:153 -/
def law03_DiskReads_r2 (F : Nat → Nat) : List AOper := [
  ⟨some 29, .call (F 29) [], none⟩,
  ⟨some 4, .val (.mov (.t 29)), none⟩]
/- law.go:155 -/
def law03_DiskReads_r3 (F : Nat → Nat) : List AOper := [
  ⟨some 31, .val (.loadA 2 (.t 2)), none⟩,
  ⟨some 32, .val (.loadA 2 (.t 3)), none⟩,
  ⟨some 33, .call (F 36) [(.t 31), (.t 32)], none⟩,
  ⟨some 30, .val (.mov (.t 33)), none⟩,
  ⟨some 34, .val (.extr 0 (.t 30)), none⟩,
  ⟨some 35, .val (.extr 1 (.t 30)), none⟩,
  ⟨some 5, .alloc 2 [.nil 1, .nil 2], none⟩,
  ⟨none, .stA true 2 (.t 5) (.t 34), none⟩,
  ⟨some 6, .val (.mov (.t 35)), none⟩]
/- law.go:156 -/
def law03_DiskReads_r4 (F : Nat → Nat) : List AOper := [
  ⟨some 36, .val (.loadA 2 (.t 5)), none⟩,
  ⟨some 37, .call (F 41) [(.t 36)], none⟩,
  ⟨some 7, .alloc 2 [.nil 1, .nil 2], none⟩,
  ⟨none, .stA true 2 (.t 7) (.t 37), none⟩]
/- law.go:157 -/
def law03_DiskReads_r5 : List AOper := [
  ⟨some 38, .val (.field 0 (.t 2)), none⟩,
  ⟨some 39, .val (.load1 (.t 38)), none⟩,
  ⟨some 40, .val (.lenS (.t 39)), none⟩,
  ⟨some 41, .val (.mov (.k (.int .i64 0))), none⟩]
/- law.go:157 -/
def law03_DiskReads_r6 : List AOper := [
  ⟨some 42, .val (.bin .lss false (.t 41) (.t 40)), none⟩]
/- law.go:157 -/
def law03_DiskReads_r7 : List AOper := [
  ⟨some 43, .val (.mov (.t 41)), none⟩,
  ⟨some 8, .val (.mov (.t 43)), none⟩]
/- law.go:158 -/
def law03_DiskReads_r8 (F : Nat → Nat) : List AOper := [
  ⟨some 45, .val (.loadA 2 (.t 2)), none⟩,
  ⟨some 46, .val (.mov (.t 8)), none⟩,
  ⟨some 47, .call (F 37) [(.t 45), (.t 46)], none⟩,
  ⟨some 44, .val (.mov (.t 47)), none⟩,
  ⟨some 48, .val (.extr 0 (.t 44)), none⟩,
  ⟨some 49, .val (.extr 1 (.t 44)), none⟩,
  ⟨some 9, .val (.mov (.t 48)), none⟩,
  ⟨some 10, .val (.mov (.t 49)), none⟩]
/- law.go:159 -/
def law03_DiskReads_r9 (F : Nat → Nat) : List AOper := [
  ⟨some 51, .val (.loadA 2 (.t 5)), none⟩,
  ⟨some 52, .val (.mov (.t 8)), none⟩,
  ⟨some 53, .call (F 37) [(.t 51), (.t 52)], none⟩,
  ⟨some 50, .val (.mov (.t 53)), none⟩,
  ⟨some 54, .val (.extr 0 (.t 50)), none⟩,
  ⟨some 55, .val (.extr 1 (.t 50)), none⟩,
  ⟨some 11, .val (.mov (.t 54)), none⟩,
  ⟨some 12, .val (.mov (.t 55)), none⟩]
/- law.go:160 -/
def law03_DiskReads_r10 (F : Nat → Nat) : List AOper := [
  ⟨some 57, .val (.loadA 2 (.t 7)), none⟩,
  ⟨some 58, .val (.mov (.t 8)), none⟩,
  ⟨some 59, .call (F 37) [(.t 57), (.t 58)], none⟩,
  ⟨some 56, .val (.mov (.t 59)), none⟩,
  ⟨some 60, .val (.extr 0 (.t 56)), none⟩,
  ⟨some 61, .val (.extr 1 (.t 56)), none⟩,
  ⟨some 13, .val (.mov (.t 60)), none⟩,
  ⟨some 14, .val (.mov (.t 61)), none⟩]
/- law.go:161 -/
def law03_DiskReads_r11 : List AOper := [
  ⟨some 62, .val (.mov (.t 6)), none⟩,
  ⟨some 63, .val (.bin .eql false (.t 62) (.k (.int .i64 0))), none⟩,
  ⟨some 64, .val (.mov (.t 63)), none⟩,
  ⟨some 65, .val (.mov (.t 8)), some (64, true)⟩,
  ⟨some 66, .val (.field 0 (.t 3)), some (64, true)⟩,
  ⟨some 67, .val (.load1 (.t 66)), some (64, true)⟩,
  ⟨some 68, .val (.bin .eql false (.t 65) (.t 67)), some (64, true)⟩,
  ⟨some 69, .val (.pand (.t 64) (.t 68)), none⟩]
/- law.go:162 -/
def law03_DiskReads_r12 : List AOper := [
  ⟨some 70, .val (.field 1 (.t 3)), none⟩,
  ⟨some 71, .val (.load1 (.t 70)), none⟩,
  ⟨some 9, .val (.mov (.t 71)), none⟩]
/- law.go:164 -/
def law03_DiskReads_r13 : List AOper := [
  ⟨some 72, .val (.mov (.t 10)), none⟩,
  ⟨some 73, .val (.bin .neq false (.t 72) (.k (.int .i64 0))), none⟩,
  ⟨some 74, .val (.mov (.t 73)), none⟩,
  ⟨some 75, .val (.mov (.t 12)), some (74, false)⟩,
  ⟨some 76, .val (.bin .neq false (.t 75) (.k (.int .i64 0))), some (74, false)⟩,
  ⟨some 77, .val (.por (.t 74) (.t 76)), none⟩,
  ⟨some 78, .val (.mov (.t 77)), none⟩,
  ⟨some 79, .val (.mov (.t 14)), some (78, false)⟩,
  ⟨some 80, .val (.bin .neq false (.t 79) (.k (.int .i64 0))), some (78, false)⟩,
  ⟨some 81, .val (.por (.t 78) (.t 80)), none⟩,
  ⟨some 82, .val (.mov (.t 81)), none⟩,
  ⟨some 83, .val (.mov (.t 11)), some (82, false)⟩,
  ⟨some 84, .val (.mov (.t 9)), some (82, false)⟩,
  ⟨some 85, .val (.bin .neq false (.t 83) (.t 84)), some (82, false)⟩,
  ⟨some 86, .val (.por (.t 82) (.t 85)), none⟩,
  ⟨some 87, .val (.mov (.t 86)), none⟩,
  ⟨some 88, .val (.mov (.t 13)), some (87, false)⟩,
  ⟨some 89, .val (.mov (.t 9)), some (87, false)⟩,
  ⟨some 90, .val (.bin .neq false (.t 88) (.t 89)), some (87, false)⟩,
  ⟨some 91, .val (.por (.t 87) (.t 90)), none⟩]
/- law.go:165 -/
def law03_DiskReads_r14 : List AOper := [
  ⟨some 4, .val (.mov (.k (.bool false))), none⟩]
/- law.go:157 -/
def law03_DiskReads_r15 : List AOper := [
  ⟨some 92, .val (.bin .add true (.t 41) (.k (.int .i64 1))), none⟩,
  ⟨some 41, .val (.mov (.t 92)), none⟩]
/- law.go:168 -/
def law03_DiskReads_r16 (F : Nat → Nat) : List AOper := [
  ⟨some 93, .call (F 29) [], none⟩,
  ⟨some 4, .val (.mov (.t 93)), none⟩]
def law03_DiskReads_c (F : Nat → Nat) : ACode :=
  (.seq
    (.reg law03_DiskReads_r0 (some ([2, 3], [2, 3])))
    (.seq
      (.seq
        (.reg (law03_DiskReads_r1 F) (some ([2, 3, 28], [2, 3])))
        (.cond (.t 28)
          (.seq
            (.reg (law03_DiskReads_r2 F) (some ([4], [])))
            .ret)
          .skip))
      (.seq
        (.reg (law03_DiskReads_r3 F) (some ([2, 3, 5, 6], [2, 3, 5])))
        (.seq
          (.reg (law03_DiskReads_r4 F) (some ([2, 3, 5, 6, 7], [2, 3, 5, 7])))
          (.seq
            (.seq
              (.reg law03_DiskReads_r5 (some ([2, 3, 5, 6, 7, 40, 41], [2, 3, 5, 7])))
              (.block 0
                (.loop
                  (.seq
                    (.reg law03_DiskReads_r6 (some ([2, 3, 5, 6, 7, 40, 41, 42], [2, 3, 5, 7])))
                    (.seq
                      (.cond (.t 42)
                        .skip
                        (.exit 0))
                      (.seq
                        (.block 1
                          (.seq
                            (.reg law03_DiskReads_r7 (some ([2, 3, 5, 6, 7, 8, 40, 41], [2, 3, 5, 7])))
                            (.seq
                              (.reg (law03_DiskReads_r8 F) (some ([2, 3, 5, 6, 7, 8, 9, 10, 40, 41], [2, 3, 5, 7])))
                              (.seq
                                (.reg (law03_DiskReads_r9 F) (some ([2, 3, 5, 6, 7, 8, 9, 10, 11, 12, 40, 41], [2, 3, 5, 7])))
                                (.seq
                                  (.reg (law03_DiskReads_r10 F) (some ([2, 3, 5, 6, 7, 8, 9, 10, 11, 12, 13, 14, 40, 41], [2, 3, 5, 7])))
                                  (.seq
                                    (.seq
                                      (.reg law03_DiskReads_r11 (some ([2, 3, 5, 6, 7, 9, 10, 11, 12, 13, 14, 40, 41, 69], [2, 3, 5, 7])))
                                      (.cond (.t 69)
                                        (.reg law03_DiskReads_r12 (some ([2, 3, 5, 6, 7, 9, 10, 11, 12, 13, 14, 40, 41], [2, 3, 5, 7])))
                                        .skip))
                                    (.seq
                                      (.reg law03_DiskReads_r13 (some ([2, 3, 5, 6, 7, 40, 41, 91], [2, 3, 5, 7])))
                                      (.cond (.t 91)
                                        (.seq
                                          (.reg law03_DiskReads_r14 (some ([4], [])))
                                          .ret)
                                        .skip))))))))
                        (.reg law03_DiskReads_r15 (some ([2, 3, 5, 6, 7, 40, 41], [2, 3, 5, 7])))))))))
            (.seq
              (.reg (law03_DiskReads_r16 F) (some ([4], [])))
              .ret))))))
def law03_DiskReads_k (P : Program) (F : Nat → Nat) : Prop := chkFn P (F 48) 2 (law03_DiskReads_c F) [4] = true

/- lockkeeper/disk.New : names 0 sectors, 1 sectors, 4 l, 5 i uns [] -/
/- disk.go:19 -/
def disk_New_r0 : List AOper := [
  ⟨some 2, .alloc 2 [.nil 1, .nil 2], none⟩,
  ⟨some 3, .val (.mov (.k (.int .i64 0))), none⟩]
/- disk.go:20 -/
def disk_New_r1 : List AOper := [
  ⟨some 6, .val (.mov (.t 0)), none⟩,
  ⟨some 7, .val (.bin .lss false (.t 6) (.k (.int .i64 1))), none⟩,
  ⟨some 8, .val (.mov (.t 7)), none⟩,
  ⟨some 9, .val (.mov (.t 0)), some (8, false)⟩,
  ⟨some 10, .val (.bin .gtr false (.t 9) (.k (.int .i64 64))), some (8, false)⟩,
  ⟨some 11, .val (.por (.t 8) (.t 10)), none⟩]
/- disk.go:21 -/
def disk_New_r2 : List AOper := [
  ⟨some 12, .val (.build 2 [.nil 1, .nil 2] []), none⟩,
  ⟨none, .stA true 2 (.t 2) (.t 12), none⟩,
  ⟨some 3, .val (.mov (.k (.int .i64 1))), none⟩]
/- disk.go:23 -/
def disk_New_r3 : List AOper := [
  ⟨some 13, .val (.mov (.t 0)), none⟩,
  ⟨some 14, .mk 1 16 [.str []] (.t 13), none⟩,
  ⟨some 4, .val (.mov (.t 14)), none⟩]
/- disk.go:24 -/
def disk_New_r4 : List AOper := [
  ⟨some 15, .val (.mov (.t 4)), none⟩,
  ⟨some 16, .val (.lenS (.t 15)), none⟩,
  ⟨some 17, .val (.mov (.k (.int .i64 0))), none⟩]
/- disk.go:24 -/
def disk_New_r5 : List AOper := [
  ⟨some 18, .val (.bin .lss false (.t 17) (.t 16)), none⟩]
/- disk.go:24 -/
def disk_New_r6 : List AOper := [
  ⟨some 19, .val (.mov (.t 17)), none⟩,
  ⟨some 5, .val (.mov (.t 19)), none⟩]
/- disk.go:25 -/
def disk_New_r7 (F : Nat → Nat) : List AOper := [
  ⟨some 20, .val (.mov (.t 4)), none⟩,
  ⟨some 21, .val (.mov (.t 5)), none⟩,
  ⟨some 22, .call (F 49) [(.k (.str [0])), (.k (.int .i64 16))], none⟩,
  ⟨some 23, .val (.ixS 1 (.t 20) (.t 21)), none⟩,
  ⟨none, .st1 false (.t 23) (.t 22), none⟩]
/- disk.go:24 -/
def disk_New_r8 : List AOper := [
  ⟨some 24, .val (.bin .add true (.t 17) (.k (.int .i64 1))), none⟩,
  ⟨some 17, .val (.mov (.t 24)), none⟩]
/- disk.go:27 -/
def disk_New_r9 : List AOper := [
  ⟨some 25, .val (.mov (.t 4)), none⟩,
  ⟨some 26, .val (.build 2 [.nil 1, .nil 2] [(0, 1, (.t 25))]), none⟩,
  ⟨none, .stA true 2 (.t 2) (.t 26), none⟩,
  ⟨some 3, .val (.mov (.k (.int .i64 0))), none⟩]
def disk_New_c (F : Nat → Nat) : ACode :=
  (.seq
    (.reg disk_New_r0 (some ([0, 2], [2, 14])))
    (.seq
      (.seq
        (.reg disk_New_r1 (some ([0, 2, 11], [2, 14])))
        (.cond (.t 11)
          (.seq
            (.reg disk_New_r2 (some ([2, 3], [2, 14])))
            .ret)
          .skip))
      (.seq
        (.reg disk_New_r3 (some ([2, 4], [2, 14])))
        (.seq
          (.seq
            (.reg disk_New_r4 (some ([2, 4, 16, 17], [2, 14])))
            (.block 0
              (.loop
                (.seq
                  (.reg disk_New_r5 (some ([2, 4, 16, 17, 18], [2, 14])))
                  (.seq
                    (.cond (.t 18)
                      .skip
                      (.exit 0))
                    (.seq
                      (.block 1
                        (.seq
                          (.reg disk_New_r6 (some ([2, 4, 5, 16, 17], [2, 14])))
                          (.reg (disk_New_r7 F) (some ([2, 4, 16, 17], [2, 14])))))
                      (.reg disk_New_r8 (some ([2, 4, 16, 17], [2, 14])))))))))
          (.seq
            (.reg disk_New_r9 (some ([2, 3], [2, 14])))
            .ret)))))
def disk_New_k (P : Program) (F : Nat → Nat) : Prop := chkFn P (F 28) 1 (disk_New_c F) [.loadA 2 (.t 2), 3] = true

/- lockkeeper/lockkeeperlaw03.awake : names 1 d, 2 e, 3 f, 4 s, 5 g, 6 t, 7 h uns [] -/
/- law.go:11 -/
def law03_awake_r0 : List AOper := [
  ⟨some 0, .val (.mov (.k (.bool false))), none⟩]
/- law.go:12 -/
def law03_awake_r1 (F : Nat → Nat) : List AOper := [
  ⟨some 9, .call (F 28) [(.k (.int .i64 2))], none⟩,
  ⟨some 8, .val (.mov (.t 9)), none⟩,
  ⟨some 10, .val (.extr 0 (.t 8)), none⟩,
  ⟨some 11, .val (.extr 1 (.t 8)), none⟩,
  ⟨some 1, .alloc 2 [.nil 1, .nil 2], none⟩,
  ⟨none, .stA true 2 (.t 1) (.t 10), none⟩,
  ⟨some 2, .val (.mov (.t 11)), none⟩]
/- law.go:13 -/
def law03_awake_r2 (F : Nat → Nat) : List AOper := [
  ⟨some 13, .val (.loadA 2 (.t 1)), none⟩,
  ⟨some 14, .val (.build 2 [.int .i64 0, .str []] [(0, 1, (.k (.int .i64 1))), (1, 1, (.k (.str [48, 49, 50, 51, 52, 53, 54, 55, 56, 57, 97, 98, 99, 100, 101, 102])))]), none⟩,
  ⟨some 15, .call (F 36) [(.t 13), (.t 14)], none⟩,
  ⟨some 12, .val (.mov (.t 15)), none⟩,
  ⟨some 16, .val (.extr 0 (.t 12)), none⟩,
  ⟨some 17, .val (.extr 1 (.t 12)), none⟩,
  ⟨none, .stA true 2 (.t 1) (.t 16), none⟩,
  ⟨some 3, .val (.mov (.t 17)), none⟩]
/- law.go:14 -/
def law03_awake_r3 (F : Nat → Nat) : List AOper := [
  ⟨some 19, .val (.loadA 2 (.t 1)), none⟩,
  ⟨some 20, .call (F 37) [(.t 19), (.k (.int .i64 1))], none⟩,
  ⟨some 18, .val (.mov (.t 20)), none⟩,
  ⟨some 21, .val (.extr 0 (.t 18)), none⟩,
  ⟨some 22, .val (.extr 1 (.t 18)), none⟩,
  ⟨some 4, .val (.mov (.t 21)), none⟩,
  ⟨some 5, .val (.mov (.t 22)), none⟩]
/- law.go:15 -/
def law03_awake_r4 (F : Nat → Nat) : List AOper := [
  ⟨some 24, .val (.loadA 2 (.t 1)), none⟩,
  ⟨some 25, .call (F 33) [(.t 24), (.k (.nil 1))], none⟩,
  ⟨some 26, .call (F 37) [(.t 25), (.k (.int .i64 1))], none⟩,
  ⟨some 23, .val (.mov (.t 26)), none⟩,
  ⟨some 27, .val (.extr 0 (.t 23)), none⟩,
  ⟨some 28, .val (.extr 1 (.t 23)), none⟩,
  ⟨some 6, .val (.mov (.t 27)), none⟩,
  ⟨some 7, .val (.mov (.t 28)), none⟩]
/- law.go:16 -/
def law03_awake_r5 (F : Nat → Nat) : List AOper := [
  ⟨some 29, .val (.mov (.t 2)), none⟩,
  ⟨some 30, .val (.bin .eql false (.t 29) (.k (.int .i64 0))), none⟩,
  ⟨some 31, .val (.mov (.t 30)), none⟩,
  ⟨some 32, .val (.mov (.t 3)), some (31, true)⟩,
  ⟨some 33, .val (.bin .eql false (.t 32) (.k (.int .i64 0))), some (31, true)⟩,
  ⟨some 34, .val (.pand (.t 31) (.t 33)), none⟩,
  ⟨some 35, .val (.mov (.t 34)), none⟩,
  ⟨some 36, .val (.mov (.t 4)), some (35, true)⟩,
  ⟨some 37, .val (.bin .eql false (.t 36) (.k (.str [48, 49, 50, 51, 52, 53, 54, 55, 56, 57, 97, 98, 99, 100, 101, 102]))), some (35, true)⟩,
  ⟨some 38, .val (.pand (.t 35) (.t 37)), none⟩,
  ⟨some 39, .val (.mov (.t 38)), none⟩,
  ⟨some 40, .val (.mov (.t 5)), some (39, true)⟩,
  ⟨some 41, .val (.bin .eql false (.t 40) (.k (.int .i64 0))), some (39, true)⟩,
  ⟨some 42, .val (.pand (.t 39) (.t 41)), none⟩,
  ⟨some 43, .val (.mov (.t 42)), none⟩,
  ⟨some 44, .val (.mov (.t 6)), some (43, true)⟩,
  ⟨some 45, .val (.lenT (.t 44)), some (43, true)⟩,
  ⟨some 46, .val (.bin .eql false (.t 45) (.k (.int .i64 16))), some (43, true)⟩,
  ⟨some 47, .val (.pand (.t 43) (.t 46)), none⟩,
  ⟨some 48, .val (.mov (.t 47)), none⟩,
  ⟨some 49, .val (.mov (.t 6)), some (48, true)⟩,
  ⟨some 50, .val (.idx (.t 49) (.k (.int .i64 0))), some (48, true)⟩,
  ⟨some 51, .val (.bin .eql false (.t 50) (.k (.int .u8 0))), some (48, true)⟩,
  ⟨some 52, .val (.pand (.t 48) (.t 51)), none⟩,
  ⟨some 53, .val (.mov (.t 52)), none⟩,
  ⟨some 54, .val (.mov (.t 7)), some (53, true)⟩,
  ⟨some 55, .val (.bin .eql false (.t 54) (.k (.int .i64 0))), some (53, true)⟩,
  ⟨some 56, .val (.pand (.t 53) (.t 55)), none⟩,
  ⟨some 57, .val (.mov (.t 56)), none⟩,
  ⟨some 58, .val (.loadA 2 (.t 1)), some (57, true)⟩,
  ⟨some 59, .call (F 40) [(.t 58)], some (57, true)⟩,
  ⟨some 60, .val (.pand (.t 57) (.t 59)), none⟩,
  ⟨some 0, .val (.mov (.t 60)), none⟩]
def law03_awake_c (F : Nat → Nat) : ACode :=
  (.seq
    (.reg law03_awake_r0 (some ([], [])))
    (.seq
      (.reg (law03_awake_r1 F) (some ([1, 2], [1])))
      (.seq
        (.reg (law03_awake_r2 F) (some ([1, 2, 3], [1])))
        (.seq
          (.reg (law03_awake_r3 F) (some ([1, 2, 3, 4, 5], [1])))
          (.seq
            (.reg (law03_awake_r4 F) (some ([1, 2, 3, 4, 5, 6, 7], [1])))
            (.seq
              (.reg (law03_awake_r5 F) (some ([0], [])))
              .ret))))))
def law03_awake_k (P : Program) (F : Nat → Nat) : Prop := chkFn P (F 29) 0 (law03_awake_c F) [0] = true

/- lockkeeper/lockkeeperref03.Small : names 0 d, 1 d, 3 i, 4 i uns [] -/
/- ref.go:90 -/
def ref03_Small_r0 : List AOper := [
  ⟨some 1, .box 2 (.t 0), none⟩,
  ⟨some 2, .val (.mov (.k (.bool false))), none⟩]
/- ref.go:91 -/
def ref03_Small_r1 : List AOper := [
  ⟨some 5, .val (.field 0 (.t 1)), none⟩,
  ⟨some 6, .val (.load1 (.t 5)), none⟩,
  ⟨some 7, .val (.lenS (.t 6)), none⟩,
  ⟨some 8, .val (.bin .gtr false (.t 7) (.k (.int .i64 80))), none⟩,
  ⟨some 9, .val (.mov (.t 8)), none⟩,
  ⟨some 10, .val (.field 1 (.t 1)), some (9, false)⟩,
  ⟨some 11, .val (.load1 (.t 10)), some (9, false)⟩,
  ⟨some 12, .val (.lenS (.t 11)), some (9, false)⟩,
  ⟨some 13, .val (.bin .gtr false (.t 12) (.k (.int .i64 220))), some (9, false)⟩,
  ⟨some 14, .val (.por (.t 9) (.t 13)), none⟩]
/- ref.go:92 -/
def ref03_Small_r2 : List AOper := [
  ⟨some 2, .val (.mov (.k (.bool false))), none⟩]
/- ref.go:94 -/
def ref03_Small_r3 : List AOper := [
  ⟨some 3, .val (.mov (.k (.int .i64 0))), none⟩]
/- ref.go:94 -/
def ref03_Small_r4 : List AOper := [
  ⟨some 15, .val (.mov (.t 3)), none⟩,
  ⟨some 16, .val (.field 0 (.t 1)), none⟩,
  ⟨some 17, .val (.load1 (.t 16)), none⟩,
  ⟨some 18, .val (.lenS (.t 17)), none⟩,
  ⟨some 19, .val (.bin .lss false (.t 15) (.t 18)), none⟩]
/- ref.go:95 -/
def ref03_Small_r6 : List AOper := [
  ⟨some 22, .val (.field 0 (.t 1)), none⟩,
  ⟨some 23, .val (.load1 (.t 22)), none⟩,
  ⟨some 24, .val (.mov (.t 3)), none⟩,
  ⟨some 25, .val (.ixS 1 (.t 23) (.t 24)), none⟩,
  ⟨some 26, .val (.load1 (.t 25)), none⟩,
  ⟨some 27, .val (.lenT (.t 26)), none⟩,
  ⟨some 28, .val (.bin .gtr false (.t 27) (.k (.int .i64 40))), none⟩]
/- ref.go:96 -/
def ref03_Small_r7 : List AOper := [
  ⟨some 2, .val (.mov (.k (.bool false))), none⟩]
/- ref.go:94 -/
def ref03_Small_r5 : List AOper := [
  ⟨some 20, .val (.mov (.t 3)), none⟩,
  ⟨some 21, .val (.bin .add true (.t 20) (.k (.int .i64 1))), none⟩,
  ⟨some 3, .val (.mov (.t 21)), none⟩]
/- ref.go:99 -/
def ref03_Small_r8 : List AOper := [
  ⟨some 4, .val (.mov (.k (.int .i64 0))), none⟩]
/- ref.go:99 -/
def ref03_Small_r9 : List AOper := [
  ⟨some 29, .val (.mov (.t 4)), none⟩,
  ⟨some 30, .val (.field 1 (.t 1)), none⟩,
  ⟨some 31, .val (.load1 (.t 30)), none⟩,
  ⟨some 32, .val (.lenS (.t 31)), none⟩,
  ⟨some 33, .val (.bin .lss false (.t 29) (.t 32)), none⟩]
/- ref.go:100 -/
def ref03_Small_r11 : List AOper := [
  ⟨some 36, .val (.field 1 (.t 1)), none⟩,
  ⟨some 37, .val (.load1 (.t 36)), none⟩,
  ⟨some 38, .val (.mov (.t 4)), none⟩,
  ⟨some 39, .val (.ixS 2 (.t 37) (.t 38)), none⟩,
  ⟨some 40, .val (.field 1 (.t 39)), none⟩,
  ⟨some 41, .val (.load1 (.t 40)), none⟩,
  ⟨some 42, .val (.lenT (.t 41)), none⟩,
  ⟨some 43, .val (.bin .gtr false (.t 42) (.k (.int .i64 40))), none⟩]
/- ref.go:101 -/
def ref03_Small_r12 : List AOper := [
  ⟨some 2, .val (.mov (.k (.bool false))), none⟩]
/- ref.go:99 -/
def ref03_Small_r10 : List AOper := [
  ⟨some 34, .val (.mov (.t 4)), none⟩,
  ⟨some 35, .val (.bin .add true (.t 34) (.k (.int .i64 1))), none⟩,
  ⟨some 4, .val (.mov (.t 35)), none⟩]
/- ref.go:104 -/
def ref03_Small_r13 : List AOper := [
  ⟨some 2, .val (.mov (.k (.bool true))), none⟩]
def ref03_Small_c : ACode :=
  (.seq
    (.reg ref03_Small_r0 (some ([1], [1])))
    (.seq
      (.seq
        (.reg ref03_Small_r1 (some ([1, 14], [1])))
        (.cond (.t 14)
          (.seq
            (.reg ref03_Small_r2 (some ([2], [])))
            .ret)
          .skip))
      (.seq
        (.seq
          (.reg ref03_Small_r3 (some ([1, 3], [1])))
          (.block 0
            (.loop
              (.seq
                (.seq
                  (.reg ref03_Small_r4 (some ([1, 3, 19], [1])))
                  (.cond (.t 19)
                    .skip
                    (.exit 0)))
                (.seq
                  (.block 1
                    (.seq
                      (.reg ref03_Small_r6 (some ([1, 3, 28], [1])))
                      (.cond (.t 28)
                        (.seq
                          (.reg ref03_Small_r7 (some ([2], [])))
                          .ret)
                        .skip)))
                  (.reg ref03_Small_r5 (some ([1, 3], [1]))))))))
        (.seq
          (.seq
            (.reg ref03_Small_r8 (some ([1, 4], [1])))
            (.block 2
              (.loop
                (.seq
                  (.seq
                    (.reg ref03_Small_r9 (some ([1, 4, 33], [1])))
                    (.cond (.t 33)
                      .skip
                      (.exit 2)))
                  (.seq
                    (.block 3
                      (.seq
                        (.reg ref03_Small_r11 (some ([1, 4, 43], [1])))
                        (.cond (.t 43)
                          (.seq
                            (.reg ref03_Small_r12 (some ([2], [])))
                            .ret)
                          .skip)))
                    (.reg ref03_Small_r10 (some ([1, 4], [1]))))))))
          (.seq
            (.reg ref03_Small_r13 (some ([2], [])))
            .ret)))))
def ref03_Small_k (P : Program) (F : Nat → Nat) : Prop := chkFn P (F 31) 1 (ref03_Small_c) [2] = true

/- lockkeeper/lockkeeperref03.Right : names 0 d, 1 d, 3 i, 4 i, 5 w uns [] -/
/- ref.go:9 -/
def ref03_Right_r0 : List AOper := [
  ⟨some 1, .box 2 (.t 0), none⟩,
  ⟨some 2, .val (.mov (.k (.bool false))), none⟩]
/- ref.go:10 -/
def ref03_Right_r1 : List AOper := [
  ⟨some 6, .val (.field 0 (.t 1)), none⟩,
  ⟨some 7, .val (.load1 (.t 6)), none⟩,
  ⟨some 8, .val (.lenS (.t 7)), none⟩,
  ⟨some 9, .val (.bin .lss false (.t 8) (.k (.int .i64 1))), none⟩,
  ⟨some 10, .val (.mov (.t 9)), none⟩,
  ⟨some 11, .val (.field 0 (.t 1)), some (10, false)⟩,
  ⟨some 12, .val (.load1 (.t 11)), some (10, false)⟩,
  ⟨some 13, .val (.lenS (.t 12)), some (10, false)⟩,
  ⟨some 14, .val (.bin .gtr false (.t 13) (.k (.int .i64 64))), some (10, false)⟩,
  ⟨some 15, .val (.por (.t 10) (.t 14)), none⟩,
  ⟨some 16, .val (.mov (.t 15)), none⟩,
  ⟨some 17, .val (.field 1 (.t 1)), some (16, false)⟩,
  ⟨some 18, .val (.load1 (.t 17)), some (16, false)⟩,
  ⟨some 19, .val (.lenS (.t 18)), some (16, false)⟩,
  ⟨some 20, .val (.bin .gtr false (.t 19) (.k (.int .i64 200))), some (16, false)⟩,
  ⟨some 21, .val (.por (.t 16) (.t 20)), none⟩]
/- ref.go:11 -/
def ref03_Right_r2 : List AOper := [
  ⟨some 2, .val (.mov (.k (.bool false))), none⟩]
/- ref.go:13 -/
def ref03_Right_r3 : List AOper := [
  ⟨some 3, .val (.mov (.k (.int .i64 0))), none⟩]
/- ref.go:13 -/
def ref03_Right_r4 : List AOper := [
  ⟨some 22, .val (.mov (.t 3)), none⟩,
  ⟨some 23, .val (.field 0 (.t 1)), none⟩,
  ⟨some 24, .val (.load1 (.t 23)), none⟩,
  ⟨some 25, .val (.lenS (.t 24)), none⟩,
  ⟨some 26, .val (.bin .lss false (.t 22) (.t 25)), none⟩]
/- ref.go:14 -/
def ref03_Right_r6 : List AOper := [
  ⟨some 29, .val (.field 0 (.t 1)), none⟩,
  ⟨some 30, .val (.load1 (.t 29)), none⟩,
  ⟨some 31, .val (.mov (.t 3)), none⟩,
  ⟨some 32, .val (.ixS 1 (.t 30) (.t 31)), none⟩,
  ⟨some 33, .val (.load1 (.t 32)), none⟩,
  ⟨some 34, .val (.lenT (.t 33)), none⟩,
  ⟨some 35, .val (.bin .neq false (.t 34) (.k (.int .i64 16))), none⟩]
/- ref.go:15 -/
def ref03_Right_r7 : List AOper := [
  ⟨some 2, .val (.mov (.k (.bool false))), none⟩]
/- ref.go:13 -/
def ref03_Right_r5 : List AOper := [
  ⟨some 27, .val (.mov (.t 3)), none⟩,
  ⟨some 28, .val (.bin .add true (.t 27) (.k (.int .i64 1))), none⟩,
  ⟨some 3, .val (.mov (.t 28)), none⟩]
/- ref.go:18 -/
def ref03_Right_r8 : List AOper := [
  ⟨some 4, .val (.mov (.k (.int .i64 0))), none⟩]
/- ref.go:18 -/
def ref03_Right_r9 : List AOper := [
  ⟨some 36, .val (.mov (.t 4)), none⟩,
  ⟨some 37, .val (.field 1 (.t 1)), none⟩,
  ⟨some 38, .val (.load1 (.t 37)), none⟩,
  ⟨some 39, .val (.lenS (.t 38)), none⟩,
  ⟨some 40, .val (.bin .lss false (.t 36) (.t 39)), none⟩]
/- ref.go:19 -/
def ref03_Right_r11 : List AOper := [
  ⟨some 43, .val (.field 1 (.t 1)), none⟩,
  ⟨some 44, .val (.load1 (.t 43)), none⟩,
  ⟨some 45, .val (.mov (.t 4)), none⟩,
  ⟨some 46, .val (.ixS 2 (.t 44) (.t 45)), none⟩,
  ⟨some 47, .val (.loadA 2 (.t 46)), none⟩,
  ⟨some 5, .alloc 2 [.int .i64 0, .str []], none⟩,
  ⟨none, .stA true 2 (.t 5) (.t 47), none⟩]
/- ref.go:20 -/
def ref03_Right_r12 : List AOper := [
  ⟨some 48, .val (.field 0 (.t 5)), none⟩,
  ⟨some 49, .val (.load1 (.t 48)), none⟩,
  ⟨some 50, .val (.bin .lss false (.t 49) (.k (.int .i64 0))), none⟩,
  ⟨some 51, .val (.mov (.t 50)), none⟩,
  ⟨some 52, .val (.field 0 (.t 5)), some (51, false)⟩,
  ⟨some 53, .val (.load1 (.t 52)), some (51, false)⟩,
  ⟨some 54, .val (.field 0 (.t 1)), some (51, false)⟩,
  ⟨some 55, .val (.load1 (.t 54)), some (51, false)⟩,
  ⟨some 56, .val (.lenS (.t 55)), some (51, false)⟩,
  ⟨some 57, .val (.bin .geq false (.t 53) (.t 56)), some (51, false)⟩,
  ⟨some 58, .val (.por (.t 51) (.t 57)), none⟩,
  ⟨some 59, .val (.mov (.t 58)), none⟩,
  ⟨some 60, .val (.field 1 (.t 5)), some (59, false)⟩,
  ⟨some 61, .val (.load1 (.t 60)), some (59, false)⟩,
  ⟨some 62, .val (.lenT (.t 61)), some (59, false)⟩,
  ⟨some 63, .val (.bin .neq false (.t 62) (.k (.int .i64 16))), some (59, false)⟩,
  ⟨some 64, .val (.por (.t 59) (.t 63)), none⟩]
/- ref.go:21 -/
def ref03_Right_r13 : List AOper := [
  ⟨some 2, .val (.mov (.k (.bool false))), none⟩]
/- ref.go:18 -/
def ref03_Right_r10 : List AOper := [
  ⟨some 41, .val (.mov (.t 4)), none⟩,
  ⟨some 42, .val (.bin .add true (.t 41) (.k (.int .i64 1))), none⟩,
  ⟨some 4, .val (.mov (.t 42)), none⟩]
/- ref.go:24 -/
def ref03_Right_r14 : List AOper := [
  ⟨some 2, .val (.mov (.k (.bool true))), none⟩]
def ref03_Right_c : ACode :=
  (.seq
    (.reg ref03_Right_r0 (some ([1], [1])))
    (.seq
      (.seq
        (.reg ref03_Right_r1 (some ([1, 21], [1])))
        (.cond (.t 21)
          (.seq
            (.reg ref03_Right_r2 (some ([2], [])))
            .ret)
          .skip))
      (.seq
        (.seq
          (.reg ref03_Right_r3 (some ([1, 3], [1])))
          (.block 0
            (.loop
              (.seq
                (.seq
                  (.reg ref03_Right_r4 (some ([1, 3, 26], [1])))
                  (.cond (.t 26)
                    .skip
                    (.exit 0)))
                (.seq
                  (.block 1
                    (.seq
                      (.reg ref03_Right_r6 (some ([1, 3, 35], [1])))
                      (.cond (.t 35)
                        (.seq
                          (.reg ref03_Right_r7 (some ([2], [])))
                          .ret)
                        .skip)))
                  (.reg ref03_Right_r5 (some ([1, 3], [1]))))))))
        (.seq
          (.seq
            (.reg ref03_Right_r8 (some ([1, 4], [1])))
            (.block 2
              (.loop
                (.seq
                  (.seq
                    (.reg ref03_Right_r9 (some ([1, 4, 40], [1])))
                    (.cond (.t 40)
                      .skip
                      (.exit 2)))
                  (.seq
                    (.block 3
                      (.seq
                        (.reg ref03_Right_r11 (some ([1, 4, 5], [1, 5])))
                        (.seq
                          (.reg ref03_Right_r12 (some ([1, 4, 64], [1])))
                          (.cond (.t 64)
                            (.seq
                              (.reg ref03_Right_r13 (some ([2], [])))
                              .ret)
                            .skip))))
                    (.reg ref03_Right_r10 (some ([1, 4], [1]))))))))
          (.seq
            (.reg ref03_Right_r14 (some ([2], [])))
            .ret)))))
def ref03_Right_k (P : Program) (F : Nat → Nat) : Prop := chkFn P (F 32) 1 (ref03_Right_c) [2] = true

/- lockkeeper/disk.Crash : names 0 d, 1 keep, 2 d, 3 keep, 5 kept, 6 _, 7 k, 8 done, 9 i, 10 w uns [] -/
/- disk.go:87 -/
def disk_Crash_r0 : List AOper := [
  ⟨some 2, .box 2 (.t 0), none⟩,
  ⟨some 4, .alloc 2 [.nil 1, .nil 2], none⟩]
/- disk.go:88 -/
def disk_Crash_r1 (F : Nat → Nat) : List AOper := [
  ⟨some 11, .val (.loadA 2 (.t 2)), none⟩,
  ⟨some 12, .call (F 40) [(.t 11)], none⟩,
  ⟨some 13, .val (.not (.t 12)), none⟩]
/- disk.go:89 -/
def disk_Crash_r2 : List AOper := [
  ⟨some 14, .val (.loadA 2 (.t 2)), none⟩,
  ⟨none, .stA true 2 (.t 4) (.t 14), none⟩]
/- disk.go:91 -/
def disk_Crash_r3 : List AOper := [
  ⟨some 15, .val (.field 1 (.t 2)), none⟩,
  ⟨some 16, .val (.load1 (.t 15)), none⟩,
  ⟨some 17, .val (.lenS (.t 16)), none⟩,
  ⟨some 18, .mk 1 1 [.bool false] (.t 17), none⟩,
  ⟨some 5, .val (.mov (.t 18)), none⟩]
/- disk.go:92 -/
def disk_Crash_r4 : List AOper := [
  ⟨some 19, .val (.mov (.t 1)), none⟩,
  ⟨some 20, .val (.lenS (.t 19)), none⟩,
  ⟨some 21, .val (.mov (.k (.int .i64 0))), none⟩]
/- disk.go:92 -/
def disk_Crash_r5 : List AOper := [
  ⟨some 22, .val (.bin .lss false (.t 21) (.t 20)), none⟩]
/- disk.go:92 -/
def disk_Crash_r6 : List AOper := [
  ⟨some 23, .val (.ixS 1 (.t 19) (.t 21)), none⟩,
  ⟨some 24, .val (.load1 (.t 23)), none⟩,
  ⟨some 7, .val (.mov (.t 24)), none⟩]
/- disk.go:93 -/
def disk_Crash_r7 : List AOper := [
  ⟨some 25, .val (.mov (.t 7)), none⟩,
  ⟨some 26, .val (.bin .geq false (.t 25) (.k (.int .i64 0))), none⟩,
  ⟨some 27, .val (.mov (.t 26)), none⟩,
  ⟨some 28, .val (.mov (.t 7)), some (27, true)⟩,
  ⟨some 29, .val (.mov (.t 5)), some (27, true)⟩,
  ⟨some 30, .val (.lenS (.t 29)), some (27, true)⟩,
  ⟨some 31, .val (.bin .lss false (.t 28) (.t 30)), some (27, true)⟩,
  ⟨some 32, .val (.pand (.t 27) (.t 31)), none⟩]
/- disk.go:94 -/
def disk_Crash_r8 : List AOper := [
  ⟨some 33, .val (.mov (.t 5)), none⟩,
  ⟨some 34, .val (.mov (.t 7)), none⟩,
  ⟨some 35, .val (.ixS 1 (.t 33) (.t 34)), none⟩,
  ⟨none, .st1 false (.t 35) (.k (.bool true)), none⟩]
/- disk.go:92 -/
def disk_Crash_r9 : List AOper := [
  ⟨some 36, .val (.bin .add true (.t 21) (.k (.int .i64 1))), none⟩,
  ⟨some 21, .val (.mov (.t 36)), none⟩]
/- disk.go:97 -/
def disk_Crash_r10 : List AOper := [
  ⟨some 8, .val (.mov (.k (.nil 2))), none⟩]
/- disk.go:98 -/
def disk_Crash_r11 : List AOper := [
  ⟨some 37, .val (.field 1 (.t 2)), none⟩,
  ⟨some 38, .val (.load1 (.t 37)), none⟩,
  ⟨some 39, .val (.lenS (.t 38)), none⟩,
  ⟨some 40, .val (.mov (.k (.int .i64 0))), none⟩]
/- disk.go:98 -/
def disk_Crash_r12 : List AOper := [
  ⟨some 41, .val (.bin .lss false (.t 40) (.t 39)), none⟩]
/- disk.go:98 -/
def disk_Crash_r13 : List AOper := [
  ⟨some 42, .val (.mov (.t 40)), none⟩,
  ⟨some 43, .val (.ixS 2 (.t 38) (.t 40)), none⟩,
  ⟨some 44, .val (.loadA 2 (.t 43)), none⟩,
  ⟨some 10, .alloc 2 [.int .i64 0, .str []], none⟩,
  ⟨some 9, .val (.mov (.t 42)), none⟩,
  ⟨none, .stA true 2 (.t 10) (.t 44), none⟩]
/- disk.go:99 -/
def disk_Crash_r14 : List AOper := [
  ⟨some 45, .val (.mov (.t 5)), none⟩,
  ⟨some 46, .val (.mov (.t 9)), none⟩,
  ⟨some 47, .val (.ixS 1 (.t 45) (.t 46)), none⟩,
  ⟨some 48, .val (.load1 (.t 47)), none⟩]
/- disk.go:100 -/
def disk_Crash_r15 : List AOper := [
  ⟨some 49, .val (.mov (.t 8)), none⟩,
  ⟨some 50, .val (.loadA 2 (.t 10)), none⟩,
  ⟨some 51, .buildS 2 1 [.int .i64 0, .str []] [(0, (.t 50))], none⟩,
  ⟨some 52, .app 2 24 (.t 49) (.t 51), none⟩,
  ⟨some 8, .val (.mov (.t 52)), none⟩]
/- disk.go:98 -/
def disk_Crash_r16 : List AOper := [
  ⟨some 53, .val (.bin .add true (.t 40) (.k (.int .i64 1))), none⟩,
  ⟨some 40, .val (.mov (.t 53)), none⟩]
/- disk.go:103 -/
def disk_Crash_r17 (F : Nat → Nat) : List AOper := [
  ⟨some 54, .val (.loadA 2 (.t 2)), none⟩,
  ⟨some 55, .val (.mov (.t 8)), none⟩,
  ⟨some 56, .call (F 50) [(.t 54), (.t 55)], none⟩,
  ⟨none, .stA true 2 (.t 4) (.t 56), none⟩]
def disk_Crash_c (F : Nat → Nat) : ACode :=
  (.seq
    (.reg disk_Crash_r0 (some ([1, 2, 4], [2, 4, 18, 51, 52])))
    (.seq
      (.seq
        (.reg (disk_Crash_r1 F) (some ([1, 2, 4, 13], [2, 4, 18, 51, 52])))
        (.cond (.t 13)
          (.seq
            (.reg disk_Crash_r2 (some ([4], [4, 18, 51, 52])))
            .ret)
          .skip))
      (.seq
        (.reg disk_Crash_r3 (some ([1, 2, 4, 5], [2, 4, 18, 51, 52])))
        (.seq
          (.seq
            (.reg disk_Crash_r4 (some ([2, 4, 5, 19, 20, 21], [2, 4, 18, 51, 52])))
            (.block 0
              (.loop
                (.seq
                  (.reg disk_Crash_r5 (some ([2, 4, 5, 19, 20, 21, 22], [2, 4, 18, 51, 52])))
                  (.seq
                    (.cond (.t 22)
                      .skip
                      (.exit 0))
                    (.seq
                      (.block 1
                        (.seq
                          (.reg disk_Crash_r6 (some ([2, 4, 5, 7, 19, 20, 21], [2, 4, 18, 51, 52])))
                          (.seq
                            (.reg disk_Crash_r7 (some ([2, 4, 5, 7, 19, 20, 21, 32], [2, 4, 18, 51, 52])))
                            (.cond (.t 32)
                              (.reg disk_Crash_r8 (some ([2, 4, 5, 19, 20, 21], [2, 4, 18, 51, 52])))
                              .skip))))
                      (.reg disk_Crash_r9 (some ([2, 4, 5, 19, 20, 21], [2, 4, 18, 51, 52])))))))))
          (.seq
            (.reg disk_Crash_r10 (some ([2, 4, 5, 8], [2, 4, 18, 51, 52])))
            (.seq
              (.seq
                (.reg disk_Crash_r11 (some ([2, 4, 5, 8, 38, 39, 40], [2, 4, 18, 51, 52])))
                (.block 2
                  (.loop
                    (.seq
                      (.reg disk_Crash_r12 (some ([2, 4, 5, 8, 38, 39, 40, 41], [2, 4, 18, 51, 52])))
                      (.seq
                        (.cond (.t 41)
                          .skip
                          (.exit 2))
                        (.seq
                          (.block 3
                            (.seq
                              (.reg disk_Crash_r13 (some ([2, 4, 5, 8, 9, 10, 38, 39, 40], [2, 4, 10, 18, 51, 52])))
                              (.seq
                                (.reg disk_Crash_r14 (some ([2, 4, 5, 8, 10, 38, 39, 40, 48], [2, 4, 10, 18, 51, 52])))
                                (.cond (.t 48)
                                  (.reg disk_Crash_r15 (some ([2, 4, 5, 8, 38, 39, 40], [2, 4, 18, 51, 52])))
                                  .skip))))
                          (.reg disk_Crash_r16 (some ([2, 4, 5, 8, 38, 39, 40], [2, 4, 18, 51, 52])))))))))
              (.seq
                (.reg (disk_Crash_r17 F) (some ([4], [4, 18, 51, 52])))
                .ret)))))))
def disk_Crash_k (P : Program) (F : Nat → Nat) : Prop := chkFn P (F 33) 2 (disk_Crash_c F) [.loadA 2 (.t 4)] = true

/- lockkeeper/lockkeeperlaw03.letters : names 0 n, 1 n, 3 s uns [] -/
/- law.go:127 -/
def law03_letters_r0 : List AOper := [
  ⟨some 2, .val (.mov (.k (.str []))), none⟩]
/- law.go:128 -/
def law03_letters_r1 : List AOper := [
  ⟨some 3, .val (.mov (.k (.str []))), none⟩]
/- law.go:129 -/
def law03_letters_r2 : List AOper := [
  ⟨some 4, .val (.mov (.k (.int .i64 0))), none⟩]
/- law.go:129 -/
def law03_letters_r3 : List AOper := [
  ⟨some 5, .val (.bin .lss false (.t 4) (.k (.int .i64 16))), none⟩]
/- law.go:130 -/
def law03_letters_r4 : List AOper := [
  ⟨some 6, .val (.mov (.t 3)), none⟩,
  ⟨some 7, .val (.mov (.t 0)), none⟩,
  ⟨some 8, .val (.bin .rem true (.t 7) (.k (.int .u8 26))), none⟩,
  ⟨some 9, .val (.bin .add false (.k (.int .u8 97)) (.t 8)), none⟩,
  ⟨some 10, .buildS 1 1 [.int .u8 0] [(0, (.t 9))], none⟩,
  ⟨some 11, .val (.b2s (.t 10)), none⟩,
  ⟨some 12, .val (.bin .add false (.t 6) (.t 11)), none⟩,
  ⟨some 3, .val (.mov (.t 12)), none⟩]
/- law.go:129 -/
def law03_letters_r5 : List AOper := [
  ⟨some 13, .val (.bin .add true (.t 4) (.k (.int .i64 1))), none⟩,
  ⟨some 4, .val (.mov (.t 13)), none⟩]
/- law.go:132 -/
def law03_letters_r6 : List AOper := [
  ⟨some 14, .val (.mov (.t 3)), none⟩,
  ⟨some 2, .val (.mov (.t 14)), none⟩]
def law03_letters_c : ACode :=
  (.seq
    (.reg law03_letters_r0 (some ([0], [10])))
    (.seq
      (.reg law03_letters_r1 (some ([0, 3], [10])))
      (.seq
        (.seq
          (.reg law03_letters_r2 (some ([0, 3, 4], [10])))
          (.block 0
            (.loop
              (.seq
                (.reg law03_letters_r3 (some ([0, 3, 4, 5], [10])))
                (.seq
                  (.cond (.t 5)
                    .skip
                    (.exit 0))
                  (.seq
                    (.block 1
                      (.reg law03_letters_r4 (some ([0, 3, 4], [10]))))
                    (.reg law03_letters_r5 (some ([0, 3, 4], [10])))))))))
        (.seq
          (.reg law03_letters_r6 (some ([2], [10])))
          .ret))))
def law03_letters_k (P : Program) (F : Nat → Nat) : Prop := chkFn P (F 35) 1 (law03_letters_c) [2] = true

/- lockkeeper/disk.Put : names 0 d, 1 w, 2 d, 3 w uns [] -/
/- disk.go:67 -/
def disk_Put_r0 : List AOper := [
  ⟨some 2, .box 2 (.t 0), none⟩,
  ⟨some 3, .box 2 (.t 1), none⟩,
  ⟨some 4, .alloc 2 [.nil 1, .nil 2], none⟩,
  ⟨some 5, .val (.mov (.k (.int .i64 0))), none⟩]
/- disk.go:68 -/
def disk_Put_r1 (F : Nat → Nat) : List AOper := [
  ⟨some 6, .val (.loadA 2 (.t 2)), none⟩,
  ⟨some 7, .call (F 40) [(.t 6)], none⟩,
  ⟨some 8, .val (.not (.t 7)), none⟩,
  ⟨some 9, .val (.mov (.t 8)), none⟩,
  ⟨some 10, .val (.loadA 2 (.t 2)), some (9, false)⟩,
  ⟨some 11, .val (.loadA 2 (.t 3)), some (9, false)⟩,
  ⟨some 12, .call (F 51) [(.t 10), (.t 11)], some (9, false)⟩,
  ⟨some 13, .val (.not (.t 12)), some (9, false)⟩,
  ⟨some 14, .val (.por (.t 9) (.t 13)), none⟩]
/- disk.go:69 -/
def disk_Put_r2 : List AOper := [
  ⟨some 15, .val (.loadA 2 (.t 2)), none⟩,
  ⟨none, .stA true 2 (.t 4) (.t 15), none⟩,
  ⟨some 5, .val (.mov (.k (.int .i64 1))), none⟩]
/- disk.go:71 -/
def disk_Put_r3 : List AOper := [
  ⟨some 16, .val (.field 1 (.t 2)), none⟩,
  ⟨some 17, .val (.load1 (.t 16)), none⟩,
  ⟨some 18, .val (.lenS (.t 17)), none⟩,
  ⟨some 19, .val (.bin .geq false (.t 18) (.k (.int .i64 200))), none⟩]
/- disk.go:72 -/
def disk_Put_r4 : List AOper := [
  ⟨some 20, .val (.loadA 2 (.t 2)), none⟩,
  ⟨none, .stA true 2 (.t 4) (.t 20), none⟩,
  ⟨some 5, .val (.mov (.k (.int .i64 7))), none⟩]
/- disk.go:74 DRAWS -/
def disk_Put_r5 (F : Nat → Nat) : List AOper := [
  ⟨some 21, .val (.field 1 (.t 2)), none⟩,
  ⟨some 22, .val (.load1 (.t 21)), none⟩,
  ⟨some 23, .call (F 52) [(.t 22)], none⟩,
  ⟨some 24, .val (.loadA 2 (.t 3)), none⟩,
  ⟨some 25, .buildS 2 1 [.int .i64 0, .str []] [(0, (.t 24))], none⟩,
  ⟨some 26, .app 2 24 (.t 23) (.t 25), none⟩,
  ⟨some 27, .val (.field 1 (.t 2)), none⟩,
  ⟨none, .st1 true (.t 27) (.t 26), none⟩]
/- disk.go:75 -/
def disk_Put_r6 : List AOper := [
  ⟨some 28, .val (.loadA 2 (.t 2)), none⟩,
  ⟨none, .stA true 2 (.t 4) (.t 28), none⟩,
  ⟨some 5, .val (.mov (.k (.int .i64 0))), none⟩]
def disk_Put_c (F : Nat → Nat) : ACode :=
  (.seq
    (.reg disk_Put_r0 (some ([2, 3, 4], [2, 3, 4, 25, 26, 1023])))
    (.seq
      (.seq
        (.reg (disk_Put_r1 F) (some ([2, 3, 4, 14], [2, 3, 4, 25, 26, 1023])))
        (.cond (.t 14)
          (.seq
            (.reg disk_Put_r2 (some ([4, 5], [4, 25, 26, 1023])))
            .ret)
          .skip))
      (.seq
        (.seq
          (.reg disk_Put_r3 (some ([2, 3, 4, 19], [2, 3, 4, 25, 26, 1023])))
          (.cond (.t 19)
            (.seq
              (.reg disk_Put_r4 (some ([4, 5], [4, 25, 26, 1023])))
              .ret)
            .skip))
        (.seq
          (.regD (disk_Put_r5 F) [(2, 3), (0, 4), (1, 4), (2, 4)] (some ([2, 4], [2, 4, 25, 26, 1023])))
          (.seq
            (.reg disk_Put_r6 (some ([4, 5], [4, 25, 26, 1023])))
            .ret)))))
def disk_Put_k (P : Program) (F : Nat → Nat) : Prop := chkFn P (F 36) 2 (disk_Put_c F) [.loadA 2 (.t 4), 5] = true

/- lockkeeper/disk.Read : names 0 d, 1 at, 2 d, 3 at, 6 _, 7 w uns [] -/
/- disk.go:54 -/
def disk_Read_r0 : List AOper := [
  ⟨some 2, .box 2 (.t 0), none⟩,
  ⟨some 3, .box 1 (.t 1), none⟩,
  ⟨some 4, .alloc 1 [.str []], none⟩,
  ⟨some 5, .alloc 1 [.int .i64 0], none⟩]
/- disk.go:55 -/
def disk_Read_r1 (F : Nat → Nat) : List AOper := [
  ⟨some 8, .val (.loadA 2 (.t 2)), none⟩,
  ⟨some 9, .call (F 40) [(.t 8)], none⟩,
  ⟨some 10, .val (.not (.t 9)), none⟩,
  ⟨some 11, .val (.mov (.t 10)), none⟩,
  ⟨some 12, .val (.load1 (.t 3)), some (11, false)⟩,
  ⟨some 13, .val (.bin .lss false (.t 12) (.k (.int .i64 0))), some (11, false)⟩,
  ⟨some 14, .val (.por (.t 11) (.t 13)), none⟩,
  ⟨some 15, .val (.mov (.t 14)), none⟩,
  ⟨some 16, .val (.load1 (.t 3)), some (15, false)⟩,
  ⟨some 17, .val (.field 0 (.t 2)), some (15, false)⟩,
  ⟨some 18, .val (.load1 (.t 17)), some (15, false)⟩,
  ⟨some 19, .val (.lenS (.t 18)), some (15, false)⟩,
  ⟨some 20, .val (.bin .geq false (.t 16) (.t 19)), some (15, false)⟩,
  ⟨some 21, .val (.por (.t 15) (.t 20)), none⟩]
/- disk.go:56 -/
def disk_Read_r2 : List AOper := [
  ⟨none, .st1 true (.t 4) (.k (.str [])), none⟩,
  ⟨none, .st1 true (.t 5) (.k (.int .i64 1)), none⟩]
/- disk.go:58 -/
def disk_Read_r3 (F : Nat → Nat) : List AOper := [
  ⟨some 22, .val (.field 1 (.t 2)), none⟩,
  ⟨some 23, .val (.load1 (.t 22)), none⟩,
  ⟨some 24, .call (F 53) [(.t 23)], none⟩]
/- disk.go:63 -/
def disk_Read_r7 : List AOper := [
  ⟨some 33, .val (.field 0 (.t 2)), none⟩,
  ⟨some 34, .val (.load1 (.t 33)), none⟩,
  ⟨some 35, .val (.load1 (.t 3)), none⟩,
  ⟨some 36, .val (.ixS 1 (.t 34) (.t 35)), none⟩,
  ⟨some 37, .val (.load1 (.t 36)), none⟩,
  ⟨none, .st1 true (.t 4) (.t 37), none⟩,
  ⟨none, .st1 true (.t 5) (.k (.int .i64 0)), none⟩]
def disk_Read_c (F : Nat → Nat) : ACode :=
  (.seq
    (.reg disk_Read_r0 (some ([2, 3, 4, 5], [2, 3, 4, 5])))
    (.seq
      (.seq
        (.reg (disk_Read_r1 F) (some ([2, 4, 5, 21], [2, 4, 5])))
        (.cond (.t 21)
          (.seq
            (.reg disk_Read_r2 (some ([4, 5], [4, 5])))
            .ret)
          .skip))
      (.seq
        (.seq
          (.reg (disk_Read_r3 F) (some ([], [])))
          (.block 0
            .halt))
        (.seq
          (.reg disk_Read_r7 (some ([4, 5], [4, 5])))
          .ret))))
def disk_Read_k (P : Program) (F : Nat → Nat) : Prop := chkFn P (F 37) 2 (disk_Read_c F) [.load1 (.t 4), .load1 (.t 5)] = true

/- lockkeeper/lockkeeperref03.Same : names 0 a, 1 b, 2 a, 3 b, 5 i, 6 i uns [] -/
/- ref.go:72 -/
def ref03_Same_r0 : List AOper := [
  ⟨some 2, .box 2 (.t 0), none⟩,
  ⟨some 3, .box 2 (.t 1), none⟩,
  ⟨some 4, .val (.mov (.k (.bool false))), none⟩]
/- ref.go:73 -/
def ref03_Same_r1 : List AOper := [
  ⟨some 7, .val (.field 0 (.t 2)), none⟩,
  ⟨some 8, .val (.load1 (.t 7)), none⟩,
  ⟨some 9, .val (.lenS (.t 8)), none⟩,
  ⟨some 10, .val (.field 0 (.t 3)), none⟩,
  ⟨some 11, .val (.load1 (.t 10)), none⟩,
  ⟨some 12, .val (.lenS (.t 11)), none⟩,
  ⟨some 13, .val (.bin .neq false (.t 9) (.t 12)), none⟩,
  ⟨some 14, .val (.mov (.t 13)), none⟩,
  ⟨some 15, .val (.field 1 (.t 2)), some (14, false)⟩,
  ⟨some 16, .val (.load1 (.t 15)), some (14, false)⟩,
  ⟨some 17, .val (.lenS (.t 16)), some (14, false)⟩,
  ⟨some 18, .val (.field 1 (.t 3)), some (14, false)⟩,
  ⟨some 19, .val (.load1 (.t 18)), some (14, false)⟩,
  ⟨some 20, .val (.lenS (.t 19)), some (14, false)⟩,
  ⟨some 21, .val (.bin .neq false (.t 17) (.t 20)), some (14, false)⟩,
  ⟨some 22, .val (.por (.t 14) (.t 21)), none⟩]
/- ref.go:74 -/
def ref03_Same_r2 : List AOper := [
  ⟨some 4, .val (.mov (.k (.bool false))), none⟩]
/- ref.go:76 -/
def ref03_Same_r3 : List AOper := [
  ⟨some 5, .val (.mov (.k (.int .i64 0))), none⟩]
/- ref.go:76 -/
def ref03_Same_r4 : List AOper := [
  ⟨some 23, .val (.mov (.t 5)), none⟩,
  ⟨some 24, .val (.field 0 (.t 2)), none⟩,
  ⟨some 25, .val (.load1 (.t 24)), none⟩,
  ⟨some 26, .val (.lenS (.t 25)), none⟩,
  ⟨some 27, .val (.bin .lss false (.t 23) (.t 26)), none⟩]
/- ref.go:77 DRAWS -/
def ref03_Same_r6 : List AOper := [
  ⟨some 30, .val (.field 0 (.t 2)), none⟩,
  ⟨some 31, .val (.load1 (.t 30)), none⟩,
  ⟨some 32, .val (.mov (.t 5)), none⟩,
  ⟨some 33, .val (.ixS 1 (.t 31) (.t 32)), none⟩,
  ⟨some 34, .val (.load1 (.t 33)), none⟩,
  ⟨some 35, .val (.field 0 (.t 3)), none⟩,
  ⟨some 36, .val (.load1 (.t 35)), none⟩,
  ⟨some 37, .val (.mov (.t 5)), none⟩,
  ⟨some 38, .val (.ixS 1 (.t 36) (.t 37)), none⟩,
  ⟨some 39, .val (.load1 (.t 38)), none⟩,
  ⟨some 40, .val (.bin .neq false (.t 34) (.t 39)), none⟩]
/- ref.go:78 -/
def ref03_Same_r7 : List AOper := [
  ⟨some 4, .val (.mov (.k (.bool false))), none⟩]
/- ref.go:76 -/
def ref03_Same_r5 : List AOper := [
  ⟨some 28, .val (.mov (.t 5)), none⟩,
  ⟨some 29, .val (.bin .add true (.t 28) (.k (.int .i64 1))), none⟩,
  ⟨some 5, .val (.mov (.t 29)), none⟩]
/- ref.go:81 -/
def ref03_Same_r8 : List AOper := [
  ⟨some 6, .val (.mov (.k (.int .i64 0))), none⟩]
/- ref.go:81 -/
def ref03_Same_r9 : List AOper := [
  ⟨some 41, .val (.mov (.t 6)), none⟩,
  ⟨some 42, .val (.field 1 (.t 2)), none⟩,
  ⟨some 43, .val (.load1 (.t 42)), none⟩,
  ⟨some 44, .val (.lenS (.t 43)), none⟩,
  ⟨some 45, .val (.bin .lss false (.t 41) (.t 44)), none⟩]
/- ref.go:82 DRAWS -/
def ref03_Same_r11 : List AOper := [
  ⟨some 48, .val (.field 1 (.t 2)), none⟩,
  ⟨some 49, .val (.load1 (.t 48)), none⟩,
  ⟨some 50, .val (.mov (.t 6)), none⟩,
  ⟨some 51, .val (.ixS 2 (.t 49) (.t 50)), none⟩,
  ⟨some 52, .val (.loadA 2 (.t 51)), none⟩,
  ⟨some 53, .val (.field 1 (.t 3)), none⟩,
  ⟨some 54, .val (.load1 (.t 53)), none⟩,
  ⟨some 55, .val (.mov (.t 6)), none⟩,
  ⟨some 56, .val (.ixS 2 (.t 54) (.t 55)), none⟩,
  ⟨some 57, .val (.loadA 2 (.t 56)), none⟩,
  ⟨some 58, .val (.eqA true [0, 2] (.t 52) (.t 57)), none⟩]
/- ref.go:83 -/
def ref03_Same_r12 : List AOper := [
  ⟨some 4, .val (.mov (.k (.bool false))), none⟩]
/- ref.go:81 -/
def ref03_Same_r10 : List AOper := [
  ⟨some 46, .val (.mov (.t 6)), none⟩,
  ⟨some 47, .val (.bin .add true (.t 46) (.k (.int .i64 1))), none⟩,
  ⟨some 6, .val (.mov (.t 47)), none⟩]
/- ref.go:86 -/
def ref03_Same_r13 : List AOper := [
  ⟨some 4, .val (.mov (.k (.bool true))), none⟩]
def ref03_Same_c : ACode :=
  (.seq
    (.reg ref03_Same_r0 (some ([2, 3], [2, 3])))
    (.seq
      (.seq
        (.reg ref03_Same_r1 (some ([2, 3, 22], [2, 3])))
        (.cond (.t 22)
          (.seq
            (.reg ref03_Same_r2 (some ([4], [])))
            .ret)
          .skip))
      (.seq
        (.seq
          (.reg ref03_Same_r3 (some ([2, 3, 5], [2, 3])))
          (.block 0
            (.loop
              (.seq
                (.seq
                  (.reg ref03_Same_r4 (some ([2, 3, 5, 27], [2, 3])))
                  (.cond (.t 27)
                    .skip
                    (.exit 0)))
                (.seq
                  (.block 1
                    (.seq
                      (.regD ref03_Same_r6 [] (some ([2, 3, 5, 40], [2, 3])))
                      (.cond (.t 40)
                        (.seq
                          (.reg ref03_Same_r7 (some ([4], [])))
                          .ret)
                        .skip)))
                  (.reg ref03_Same_r5 (some ([2, 3, 5], [2, 3]))))))))
        (.seq
          (.seq
            (.reg ref03_Same_r8 (some ([2, 3, 6], [2, 3])))
            (.block 2
              (.loop
                (.seq
                  (.seq
                    (.reg ref03_Same_r9 (some ([2, 3, 6, 45], [2, 3])))
                    (.cond (.t 45)
                      .skip
                      (.exit 2)))
                  (.seq
                    (.block 3
                      (.seq
                        (.regD ref03_Same_r11 [] (some ([2, 3, 6, 58], [2, 3])))
                        (.cond (.t 58)
                          (.seq
                            (.reg ref03_Same_r12 (some ([4], [])))
                            .ret)
                          .skip)))
                    (.reg ref03_Same_r10 (some ([2, 3, 6], [2, 3]))))))))
          (.seq
            (.reg ref03_Same_r13 (some ([4], [])))
            .ret)))))
def ref03_Same_k (P : Program) (F : Nat → Nat) : Prop := chkFn P (F 38) 2 (ref03_Same_c) [4] = true

/- lockkeeper/disk.Right : names 0 d, 1 d, 3 _, 4 s, 5 _, 6 w uns [] -/
/- disk.go:31 -/
def disk_Right_r0 : List AOper := [
  ⟨some 1, .box 2 (.t 0), none⟩,
  ⟨some 2, .val (.mov (.k (.bool false))), none⟩]
/- disk.go:32 -/
def disk_Right_r1 : List AOper := [
  ⟨some 7, .val (.field 0 (.t 1)), none⟩,
  ⟨some 8, .val (.load1 (.t 7)), none⟩,
  ⟨some 9, .val (.lenS (.t 8)), none⟩,
  ⟨some 10, .val (.bin .lss false (.t 9) (.k (.int .i64 1))), none⟩,
  ⟨some 11, .val (.mov (.t 10)), none⟩,
  ⟨some 12, .val (.field 0 (.t 1)), some (11, false)⟩,
  ⟨some 13, .val (.load1 (.t 12)), some (11, false)⟩,
  ⟨some 14, .val (.lenS (.t 13)), some (11, false)⟩,
  ⟨some 15, .val (.bin .gtr false (.t 14) (.k (.int .i64 64))), some (11, false)⟩,
  ⟨some 16, .val (.por (.t 11) (.t 15)), none⟩,
  ⟨some 17, .val (.mov (.t 16)), none⟩,
  ⟨some 18, .val (.field 1 (.t 1)), some (17, false)⟩,
  ⟨some 19, .val (.load1 (.t 18)), some (17, false)⟩,
  ⟨some 20, .val (.lenS (.t 19)), some (17, false)⟩,
  ⟨some 21, .val (.bin .gtr false (.t 20) (.k (.int .i64 200))), some (17, false)⟩,
  ⟨some 22, .val (.por (.t 17) (.t 21)), none⟩]
/- disk.go:33 -/
def disk_Right_r2 : List AOper := [
  ⟨some 2, .val (.mov (.k (.bool false))), none⟩]
/- disk.go:35 -/
def disk_Right_r3 : List AOper := [
  ⟨some 23, .val (.field 0 (.t 1)), none⟩,
  ⟨some 24, .val (.load1 (.t 23)), none⟩,
  ⟨some 25, .val (.lenS (.t 24)), none⟩,
  ⟨some 26, .val (.mov (.k (.int .i64 0))), none⟩]
/- disk.go:35 -/
def disk_Right_r4 : List AOper := [
  ⟨some 27, .val (.bin .lss false (.t 26) (.t 25)), none⟩]
/- disk.go:35 -/
def disk_Right_r5 : List AOper := [
  ⟨some 28, .val (.ixS 1 (.t 24) (.t 26)), none⟩,
  ⟨some 29, .val (.load1 (.t 28)), none⟩,
  ⟨some 4, .val (.mov (.t 29)), none⟩]
/- disk.go:36 -/
def disk_Right_r6 : List AOper := [
  ⟨some 30, .val (.mov (.t 4)), none⟩,
  ⟨some 31, .val (.lenT (.t 30)), none⟩,
  ⟨some 32, .val (.bin .neq false (.t 31) (.k (.int .i64 16))), none⟩]
/- disk.go:37 -/
def disk_Right_r7 : List AOper := [
  ⟨some 2, .val (.mov (.k (.bool false))), none⟩]
/- disk.go:35 -/
def disk_Right_r8 : List AOper := [
  ⟨some 33, .val (.bin .add true (.t 26) (.k (.int .i64 1))), none⟩,
  ⟨some 26, .val (.mov (.t 33)), none⟩]
/- disk.go:40 -/
def disk_Right_r9 : List AOper := [
  ⟨some 34, .val (.field 1 (.t 1)), none⟩,
  ⟨some 35, .val (.load1 (.t 34)), none⟩,
  ⟨some 36, .val (.lenS (.t 35)), none⟩,
  ⟨some 37, .val (.mov (.k (.int .i64 0))), none⟩]
/- disk.go:40 -/
def disk_Right_r10 : List AOper := [
  ⟨some 38, .val (.bin .lss false (.t 37) (.t 36)), none⟩]
/- disk.go:40 -/
def disk_Right_r11 : List AOper := [
  ⟨some 39, .val (.ixS 2 (.t 35) (.t 37)), none⟩,
  ⟨some 40, .val (.loadA 2 (.t 39)), none⟩,
  ⟨some 6, .alloc 2 [.int .i64 0, .str []], none⟩,
  ⟨none, .stA true 2 (.t 6) (.t 40), none⟩]
/- disk.go:41 -/
def disk_Right_r12 (F : Nat → Nat) : List AOper := [
  ⟨some 41, .val (.loadA 2 (.t 1)), none⟩,
  ⟨some 42, .val (.loadA 2 (.t 6)), none⟩,
  ⟨some 43, .call (F 51) [(.t 41), (.t 42)], none⟩,
  ⟨some 44, .val (.not (.t 43)), none⟩]
/- disk.go:42 -/
def disk_Right_r13 : List AOper := [
  ⟨some 2, .val (.mov (.k (.bool false))), none⟩]
/- disk.go:40 -/
def disk_Right_r14 : List AOper := [
  ⟨some 45, .val (.bin .add true (.t 37) (.k (.int .i64 1))), none⟩,
  ⟨some 37, .val (.mov (.t 45)), none⟩]
/- disk.go:45 -/
def disk_Right_r15 : List AOper := [
  ⟨some 2, .val (.mov (.k (.bool true))), none⟩]
def disk_Right_c (F : Nat → Nat) : ACode :=
  (.seq
    (.reg disk_Right_r0 (some ([1], [1])))
    (.seq
      (.seq
        (.reg disk_Right_r1 (some ([1, 22], [1])))
        (.cond (.t 22)
          (.seq
            (.reg disk_Right_r2 (some ([2], [])))
            .ret)
          .skip))
      (.seq
        (.seq
          (.reg disk_Right_r3 (some ([1, 24, 25, 26], [1])))
          (.block 0
            (.loop
              (.seq
                (.reg disk_Right_r4 (some ([1, 24, 25, 26, 27], [1])))
                (.seq
                  (.cond (.t 27)
                    .skip
                    (.exit 0))
                  (.seq
                    (.block 1
                      (.seq
                        (.reg disk_Right_r5 (some ([1, 4, 24, 25, 26], [1])))
                        (.seq
                          (.reg disk_Right_r6 (some ([1, 24, 25, 26, 32], [1])))
                          (.cond (.t 32)
                            (.seq
                              (.reg disk_Right_r7 (some ([2], [])))
                              .ret)
                            .skip))))
                    (.reg disk_Right_r8 (some ([1, 24, 25, 26], [1])))))))))
        (.seq
          (.seq
            (.reg disk_Right_r9 (some ([1, 35, 36, 37], [1])))
            (.block 2
              (.loop
                (.seq
                  (.reg disk_Right_r10 (some ([1, 35, 36, 37, 38], [1])))
                  (.seq
                    (.cond (.t 38)
                      .skip
                      (.exit 2))
                    (.seq
                      (.block 3
                        (.seq
                          (.reg disk_Right_r11 (some ([1, 6, 35, 36, 37], [1, 6])))
                          (.seq
                            (.reg (disk_Right_r12 F) (some ([1, 35, 36, 37, 44], [1])))
                            (.cond (.t 44)
                              (.seq
                                (.reg disk_Right_r13 (some ([2], [])))
                                .ret)
                              .skip))))
                      (.reg disk_Right_r14 (some ([1, 35, 36, 37], [1])))))))))
          (.seq
            (.reg disk_Right_r15 (some ([2], [])))
            .ret)))))
def disk_Right_k (P : Program) (F : Nat → Nat) : Prop := chkFn P (F 40) 1 (disk_Right_c F) [2] = true

/- lockkeeper/disk.Sync : names 0 d, 1 d uns [] -/
/- disk.go:79 -/
def disk_Sync_r0 : List AOper := [
  ⟨some 1, .box 2 (.t 0), none⟩,
  ⟨some 2, .alloc 2 [.nil 1, .nil 2], none⟩]
/- disk.go:80 -/
def disk_Sync_r1 (F : Nat → Nat) : List AOper := [
  ⟨some 3, .val (.loadA 2 (.t 1)), none⟩,
  ⟨some 4, .call (F 40) [(.t 3)], none⟩,
  ⟨some 5, .val (.not (.t 4)), none⟩]
/- disk.go:81 -/
def disk_Sync_r2 : List AOper := [
  ⟨some 6, .val (.loadA 2 (.t 1)), none⟩,
  ⟨none, .stA true 2 (.t 2) (.t 6), none⟩]
/- disk.go:83 -/
def disk_Sync_r3 (F : Nat → Nat) : List AOper := [
  ⟨some 7, .val (.loadA 2 (.t 1)), none⟩,
  ⟨some 8, .val (.field 1 (.t 1)), none⟩,
  ⟨some 9, .val (.load1 (.t 8)), none⟩,
  ⟨some 10, .call (F 50) [(.t 7), (.t 9)], none⟩,
  ⟨none, .stA true 2 (.t 2) (.t 10), none⟩]
def disk_Sync_c (F : Nat → Nat) : ACode :=
  (.seq
    (.reg disk_Sync_r0 (some ([1, 2], [1, 2])))
    (.seq
      (.seq
        (.reg (disk_Sync_r1 F) (some ([1, 2, 5], [1, 2])))
        (.cond (.t 5)
          (.seq
            (.reg disk_Sync_r2 (some ([2], [2])))
            .ret)
          .skip))
      (.seq
        (.reg (disk_Sync_r3 F) (some ([2], [2])))
        .ret)))
def disk_Sync_k (P : Program) (F : Nat → Nat) : Prop := chkFn P (F 41) 1 (disk_Sync_c F) [.loadA 2 (.t 2)] = true

/- lockkeeper/lockkeeperref03.Sync : names 0 d, 1 d, 3 out, 4 at uns [] -/
/- ref.go:63 -/
def ref03_Sync_r0 : List AOper := [
  ⟨some 1, .box 2 (.t 0), none⟩,
  ⟨some 2, .alloc 2 [.nil 1, .nil 2], none⟩]
/- ref.go:64 -/
def ref03_Sync_r1 : List AOper := [
  ⟨some 3, .alloc 2 [.nil 1, .nil 2], none⟩]
/- ref.go:65 -/
def ref03_Sync_r2 : List AOper := [
  ⟨some 4, .val (.mov (.k (.int .i64 0))), none⟩]
/- ref.go:65 -/
def ref03_Sync_r3 : List AOper := [
  ⟨some 5, .val (.mov (.t 4)), none⟩,
  ⟨some 6, .val (.field 0 (.t 1)), none⟩,
  ⟨some 7, .val (.load1 (.t 6)), none⟩,
  ⟨some 8, .val (.lenS (.t 7)), none⟩,
  ⟨some 9, .val (.bin .lss false (.t 5) (.t 8)), none⟩]
/- ref.go:66 DRAWS -/
def ref03_Sync_r5 (F : Nat → Nat) : List AOper := [
  ⟨some 12, .val (.field 0 (.t 3)), none⟩,
  ⟨some 13, .val (.load1 (.t 12)), none⟩,
  ⟨some 14, .val (.loadA 2 (.t 1)), none⟩,
  ⟨some 15, .val (.mov (.t 4)), none⟩,
  ⟨some 16, .call (F 44) [(.t 14), (.t 15)], none⟩,
  ⟨some 17, .buildS 1 1 [.str []] [(0, (.t 16))], none⟩,
  ⟨some 18, .app 1 16 (.t 13) (.t 17), none⟩,
  ⟨some 19, .val (.field 0 (.t 3)), none⟩,
  ⟨none, .st1 true (.t 19) (.t 18), none⟩]
/- ref.go:65 -/
def ref03_Sync_r4 : List AOper := [
  ⟨some 10, .val (.mov (.t 4)), none⟩,
  ⟨some 11, .val (.bin .add true (.t 10) (.k (.int .i64 1))), none⟩,
  ⟨some 4, .val (.mov (.t 11)), none⟩]
/- ref.go:68 -/
def ref03_Sync_r6 : List AOper := [
  ⟨some 20, .val (.loadA 2 (.t 3)), none⟩,
  ⟨none, .stA true 2 (.t 2) (.t 20), none⟩]
def ref03_Sync_c (F : Nat → Nat) : ACode :=
  (.seq
    (.reg ref03_Sync_r0 (some ([1, 2], [1, 2, 17, 18])))
    (.seq
      (.reg ref03_Sync_r1 (some ([1, 2, 3], [1, 2, 3, 17, 18])))
      (.seq
        (.seq
          (.reg ref03_Sync_r2 (some ([1, 2, 3, 4], [1, 2, 3, 17, 18])))
          (.block 0
            (.loop
              (.seq
                (.seq
                  (.reg ref03_Sync_r3 (some ([1, 2, 3, 4, 9], [1, 2, 3, 17, 18])))
                  (.cond (.t 9)
                    .skip
                    (.exit 0)))
                (.seq
                  (.block 1
                    (.regD (ref03_Sync_r5 F) [(0, 4), (1, 4), (0, 5), (1, 5)] (some ([1, 2, 3, 4], [1, 2, 3, 17, 18]))))
                  (.reg ref03_Sync_r4 (some ([1, 2, 3, 4], [1, 2, 3, 17, 18]))))))))
        (.seq
          (.reg ref03_Sync_r6 (some ([2], [2, 17, 18])))
          .ret))))
def ref03_Sync_k (P : Program) (F : Nat → Nat) : Prop := chkFn P (F 42) 1 (ref03_Sync_c F) [.loadA 2 (.t 2)] = true

/- lockkeeper/lockkeeperref03.Crash : names 0 d, 1 keep, 2 d, 3 keep, 5 out, 6 at, 7 s, 8 i uns [] -/
/- ref.go:48 -/
def ref03_Crash_r0 : List AOper := [
  ⟨some 2, .box 2 (.t 0), none⟩,
  ⟨some 4, .alloc 2 [.nil 1, .nil 2], none⟩]
/- ref.go:49 -/
def ref03_Crash_r1 : List AOper := [
  ⟨some 5, .alloc 2 [.nil 1, .nil 2], none⟩]
/- ref.go:50 -/
def ref03_Crash_r2 : List AOper := [
  ⟨some 6, .val (.mov (.k (.int .i64 0))), none⟩]
/- ref.go:50 -/
def ref03_Crash_r3 : List AOper := [
  ⟨some 9, .val (.mov (.t 6)), none⟩,
  ⟨some 10, .val (.field 0 (.t 2)), none⟩,
  ⟨some 11, .val (.load1 (.t 10)), none⟩,
  ⟨some 12, .val (.lenS (.t 11)), none⟩,
  ⟨some 13, .val (.bin .lss false (.t 9) (.t 12)), none⟩]
/- ref.go:51 -/
def ref03_Crash_r5 : List AOper := [
  ⟨some 16, .val (.field 0 (.t 2)), none⟩,
  ⟨some 17, .val (.load1 (.t 16)), none⟩,
  ⟨some 18, .val (.mov (.t 6)), none⟩,
  ⟨some 19, .val (.ixS 1 (.t 17) (.t 18)), none⟩,
  ⟨some 20, .val (.load1 (.t 19)), none⟩,
  ⟨some 7, .val (.mov (.t 20)), none⟩]
/- ref.go:52 -/
def ref03_Crash_r6 : List AOper := [
  ⟨some 8, .val (.mov (.k (.int .i64 0))), none⟩]
/- ref.go:52 -/
def ref03_Crash_r7 : List AOper := [
  ⟨some 21, .val (.mov (.t 8)), none⟩,
  ⟨some 22, .val (.field 1 (.t 2)), none⟩,
  ⟨some 23, .val (.load1 (.t 22)), none⟩,
  ⟨some 24, .val (.lenS (.t 23)), none⟩,
  ⟨some 25, .val (.bin .lss false (.t 21) (.t 24)), none⟩]
/- ref.go:53 -/
def ref03_Crash_r9 (F : Nat → Nat) : List AOper := [
  ⟨some 28, .val (.field 1 (.t 2)), none⟩,
  ⟨some 29, .val (.load1 (.t 28)), none⟩,
  ⟨some 30, .val (.mov (.t 8)), none⟩,
  ⟨some 31, .val (.ixS 2 (.t 29) (.t 30)), none⟩,
  ⟨some 32, .val (.field 0 (.t 31)), none⟩,
  ⟨some 33, .val (.load1 (.t 32)), none⟩,
  ⟨some 34, .val (.mov (.t 6)), none⟩,
  ⟨some 35, .val (.bin .eql false (.t 33) (.t 34)), none⟩,
  ⟨some 36, .val (.mov (.t 35)), none⟩,
  ⟨some 37, .val (.mov (.t 1)), some (36, true)⟩,
  ⟨some 38, .val (.mov (.t 8)), some (36, true)⟩,
  ⟨some 39, .call (F 54) [(.t 37), (.t 38)], some (36, true)⟩,
  ⟨some 40, .val (.pand (.t 36) (.t 39)), none⟩]
/- ref.go:54 -/
def ref03_Crash_r10 : List AOper := [
  ⟨some 41, .val (.field 1 (.t 2)), none⟩,
  ⟨some 42, .val (.load1 (.t 41)), none⟩,
  ⟨some 43, .val (.mov (.t 8)), none⟩,
  ⟨some 44, .val (.ixS 2 (.t 42) (.t 43)), none⟩,
  ⟨some 45, .val (.field 1 (.t 44)), none⟩,
  ⟨some 46, .val (.load1 (.t 45)), none⟩,
  ⟨some 7, .val (.mov (.t 46)), none⟩]
/- ref.go:52 -/
def ref03_Crash_r8 : List AOper := [
  ⟨some 26, .val (.mov (.t 8)), none⟩,
  ⟨some 27, .val (.bin .add true (.t 26) (.k (.int .i64 1))), none⟩,
  ⟨some 8, .val (.mov (.t 27)), none⟩]
/- ref.go:57 -/
def ref03_Crash_r11 : List AOper := [
  ⟨some 47, .val (.field 0 (.t 5)), none⟩,
  ⟨some 48, .val (.load1 (.t 47)), none⟩,
  ⟨some 49, .val (.mov (.t 7)), none⟩,
  ⟨some 50, .buildS 1 1 [.str []] [(0, (.t 49))], none⟩,
  ⟨some 51, .app 1 16 (.t 48) (.t 50), none⟩,
  ⟨some 52, .val (.field 0 (.t 5)), none⟩,
  ⟨none, .st1 true (.t 52) (.t 51), none⟩]
/- ref.go:50 -/
def ref03_Crash_r4 : List AOper := [
  ⟨some 14, .val (.mov (.t 6)), none⟩,
  ⟨some 15, .val (.bin .add true (.t 14) (.k (.int .i64 1))), none⟩,
  ⟨some 6, .val (.mov (.t 15)), none⟩]
/- ref.go:59 -/
def ref03_Crash_r12 : List AOper := [
  ⟨some 53, .val (.loadA 2 (.t 5)), none⟩,
  ⟨none, .stA true 2 (.t 4) (.t 53), none⟩]
def ref03_Crash_c (F : Nat → Nat) : ACode :=
  (.seq
    (.reg ref03_Crash_r0 (some ([1, 2, 4], [2, 4, 50, 51])))
    (.seq
      (.reg ref03_Crash_r1 (some ([1, 2, 4, 5], [2, 4, 5, 50, 51])))
      (.seq
        (.seq
          (.reg ref03_Crash_r2 (some ([1, 2, 4, 5, 6], [2, 4, 5, 50, 51])))
          (.block 0
            (.loop
              (.seq
                (.seq
                  (.reg ref03_Crash_r3 (some ([1, 2, 4, 5, 6, 13], [2, 4, 5, 50, 51])))
                  (.cond (.t 13)
                    .skip
                    (.exit 0)))
                (.seq
                  (.block 1
                    (.seq
                      (.reg ref03_Crash_r5 (some ([1, 2, 4, 5, 6, 7], [2, 4, 5, 50, 51])))
                      (.seq
                        (.seq
                          (.reg ref03_Crash_r6 (some ([1, 2, 4, 5, 6, 7, 8], [2, 4, 5, 50, 51])))
                          (.block 2
                            (.loop
                              (.seq
                                (.seq
                                  (.reg ref03_Crash_r7 (some ([1, 2, 4, 5, 6, 7, 8, 25], [2, 4, 5, 50, 51])))
                                  (.cond (.t 25)
                                    .skip
                                    (.exit 2)))
                                (.seq
                                  (.block 3
                                    (.seq
                                      (.reg (ref03_Crash_r9 F) (some ([1, 2, 4, 5, 6, 7, 8, 40], [2, 4, 5, 50, 51])))
                                      (.cond (.t 40)
                                        (.reg ref03_Crash_r10 (some ([1, 2, 4, 5, 6, 7, 8], [2, 4, 5, 50, 51])))
                                        .skip)))
                                  (.reg ref03_Crash_r8 (some ([1, 2, 4, 5, 6, 7, 8], [2, 4, 5, 50, 51]))))))))
                        (.reg ref03_Crash_r11 (some ([1, 2, 4, 5, 6], [2, 4, 5, 50, 51]))))))
                  (.reg ref03_Crash_r4 (some ([1, 2, 4, 5, 6], [2, 4, 5, 50, 51]))))))))
        (.seq
          (.reg ref03_Crash_r12 (some ([4], [4, 50, 51])))
          .ret))))
def ref03_Crash_k (P : Program) (F : Nat → Nat) : Prop := chkFn P (F 43) 2 (ref03_Crash_c F) [.loadA 2 (.t 4)] = true

/- lockkeeper/lockkeeperref03.Read : names 0 d, 1 at, 2 d, 3 at, 5 i uns [] -/
/- ref.go:28 -/
def ref03_Read_r0 : List AOper := [
  ⟨some 2, .box 2 (.t 0), none⟩,
  ⟨some 4, .val (.mov (.k (.str []))), none⟩]
/- ref.go:29 -/
def ref03_Read_r1 : List AOper := [
  ⟨some 6, .val (.field 1 (.t 2)), none⟩,
  ⟨some 7, .val (.load1 (.t 6)), none⟩,
  ⟨some 8, .val (.lenS (.t 7)), none⟩,
  ⟨some 9, .val (.bin .sub true (.t 8) (.k (.int .i64 1))), none⟩,
  ⟨some 5, .val (.mov (.t 9)), none⟩]
/- ref.go:29 -/
def ref03_Read_r2 : List AOper := [
  ⟨some 10, .val (.mov (.t 5)), none⟩,
  ⟨some 11, .val (.bin .geq false (.t 10) (.k (.int .i64 0))), none⟩]
/- ref.go:30 -/
def ref03_Read_r4 : List AOper := [
  ⟨some 14, .val (.field 1 (.t 2)), none⟩,
  ⟨some 15, .val (.load1 (.t 14)), none⟩,
  ⟨some 16, .val (.mov (.t 5)), none⟩,
  ⟨some 17, .val (.ixS 2 (.t 15) (.t 16)), none⟩,
  ⟨some 18, .val (.field 0 (.t 17)), none⟩,
  ⟨some 19, .val (.load1 (.t 18)), none⟩,
  ⟨some 20, .val (.mov (.t 1)), none⟩,
  ⟨some 21, .val (.bin .eql false (.t 19) (.t 20)), none⟩]
/- ref.go:31 -/
def ref03_Read_r5 : List AOper := [
  ⟨some 22, .val (.field 1 (.t 2)), none⟩,
  ⟨some 23, .val (.load1 (.t 22)), none⟩,
  ⟨some 24, .val (.mov (.t 5)), none⟩,
  ⟨some 25, .val (.ixS 2 (.t 23) (.t 24)), none⟩,
  ⟨some 26, .val (.field 1 (.t 25)), none⟩,
  ⟨some 27, .val (.load1 (.t 26)), none⟩,
  ⟨some 4, .val (.mov (.t 27)), none⟩]
/- ref.go:29 -/
def ref03_Read_r3 : List AOper := [
  ⟨some 12, .val (.mov (.t 5)), none⟩,
  ⟨some 13, .val (.bin .sub true (.t 12) (.k (.int .i64 1))), none⟩,
  ⟨some 5, .val (.mov (.t 13)), none⟩]
/- ref.go:34 -/
def ref03_Read_r6 : List AOper := [
  ⟨some 28, .val (.field 0 (.t 2)), none⟩,
  ⟨some 29, .val (.load1 (.t 28)), none⟩,
  ⟨some 30, .val (.mov (.t 1)), none⟩,
  ⟨some 31, .val (.ixS 1 (.t 29) (.t 30)), none⟩,
  ⟨some 32, .val (.load1 (.t 31)), none⟩,
  ⟨some 4, .val (.mov (.t 32)), none⟩]
def ref03_Read_c : ACode :=
  (.seq
    (.reg ref03_Read_r0 (some ([1, 2], [2])))
    (.seq
      (.seq
        (.reg ref03_Read_r1 (some ([1, 2, 5], [2])))
        (.block 0
          (.loop
            (.seq
              (.seq
                (.reg ref03_Read_r2 (some ([1, 2, 5, 11], [2])))
                (.cond (.t 11)
                  .skip
                  (.exit 0)))
              (.seq
                (.block 1
                  (.seq
                    (.reg ref03_Read_r4 (some ([1, 2, 5, 21], [2])))
                    (.cond (.t 21)
                      (.seq
                        (.reg ref03_Read_r5 (some ([4], [])))
                        .ret)
                      .skip)))
                (.reg ref03_Read_r3 (some ([1, 2, 5], [2]))))))))
      (.seq
        (.reg ref03_Read_r6 (some ([4], [])))
        .ret)))
def ref03_Read_k (P : Program) (F : Nat → Nat) : Prop := chkFn P (F 44) 2 (ref03_Read_c) [4] = true

/- lockkeeper/disk.written : names 0 d, 1 l, 2 d, 3 l, 5 sectors, 6 _, 7 w uns [] -/
/- disk.go:108 -/
def disk_written_r0 : List AOper := [
  ⟨some 2, .box 2 (.t 0), none⟩,
  ⟨some 4, .alloc 2 [.nil 1, .nil 2], none⟩]
/- disk.go:109 -/
def disk_written_r1 (F : Nat → Nat) : List AOper := [
  ⟨some 8, .val (.field 0 (.t 2)), none⟩,
  ⟨some 9, .val (.load1 (.t 8)), none⟩,
  ⟨some 10, .call (F 55) [(.t 9)], none⟩,
  ⟨some 5, .val (.mov (.t 10)), none⟩]
/- disk.go:110 -/
def disk_written_r2 : List AOper := [
  ⟨some 11, .val (.mov (.t 1)), none⟩,
  ⟨some 12, .val (.lenS (.t 11)), none⟩,
  ⟨some 13, .val (.mov (.k (.int .i64 0))), none⟩]
/- disk.go:110 -/
def disk_written_r3 : List AOper := [
  ⟨some 14, .val (.bin .lss false (.t 13) (.t 12)), none⟩]
/- disk.go:110 -/
def disk_written_r4 : List AOper := [
  ⟨some 15, .val (.ixS 2 (.t 11) (.t 13)), none⟩,
  ⟨some 16, .val (.loadA 2 (.t 15)), none⟩,
  ⟨some 7, .alloc 2 [.int .i64 0, .str []], none⟩,
  ⟨none, .stA true 2 (.t 7) (.t 16), none⟩]
/- disk.go:111 -/
def disk_written_r5 : List AOper := [
  ⟨some 17, .val (.mov (.t 5)), none⟩,
  ⟨some 18, .val (.field 0 (.t 7)), none⟩,
  ⟨some 19, .val (.load1 (.t 18)), none⟩,
  ⟨some 20, .val (.field 1 (.t 7)), none⟩,
  ⟨some 21, .val (.load1 (.t 20)), none⟩,
  ⟨some 22, .val (.ixS 1 (.t 17) (.t 19)), none⟩,
  ⟨none, .st1 false (.t 22) (.t 21), none⟩]
/- disk.go:110 -/
def disk_written_r6 : List AOper := [
  ⟨some 23, .val (.bin .add true (.t 13) (.k (.int .i64 1))), none⟩,
  ⟨some 13, .val (.mov (.t 23)), none⟩]
/- disk.go:113 -/
def disk_written_r7 : List AOper := [
  ⟨some 24, .val (.mov (.t 5)), none⟩,
  ⟨some 25, .val (.build 2 [.nil 1, .nil 2] [(0, 1, (.t 24))]), none⟩,
  ⟨none, .stA true 2 (.t 4) (.t 25), none⟩]
def disk_written_c (F : Nat → Nat) : ACode :=
  (.seq
    (.reg disk_written_r0 (some ([1, 2, 4], [2, 4, 1010])))
    (.seq
      (.reg (disk_written_r1 F) (some ([1, 4, 5], [4, 1010])))
      (.seq
        (.seq
          (.reg disk_written_r2 (some ([4, 5, 11, 12, 13], [4, 1010])))
          (.block 0
            (.loop
              (.seq
                (.reg disk_written_r3 (some ([4, 5, 11, 12, 13, 14], [4, 1010])))
                (.seq
                  (.cond (.t 14)
                    .skip
                    (.exit 0))
                  (.seq
                    (.block 1
                      (.seq
                        (.reg disk_written_r4 (some ([4, 5, 7, 11, 12, 13], [4, 7, 1010])))
                        (.reg disk_written_r5 (some ([4, 5, 11, 12, 13], [4, 1010])))))
                    (.reg disk_written_r6 (some ([4, 5, 11, 12, 13], [4, 1010])))))))))
        (.seq
          (.reg disk_written_r7 (some ([4], [4, 1010])))
          .ret))))
def disk_written_k (P : Program) (F : Nat → Nat) : Prop := chkFn P (F 50) 2 (disk_written_c F) [.loadA 2 (.t 4)] = true

/- lockkeeper/disk.fits : names 0 d, 1 w, 2 d, 3 w uns [] -/
/- disk.go:49 -/
def disk_fits_r0 : List AOper := [
  ⟨some 2, .box 2 (.t 0), none⟩,
  ⟨some 3, .box 2 (.t 1), none⟩,
  ⟨some 4, .val (.mov (.k (.bool false))), none⟩]
/- disk.go:50 -/
def disk_fits_r1 : List AOper := [
  ⟨some 5, .val (.field 0 (.t 3)), none⟩,
  ⟨some 6, .val (.load1 (.t 5)), none⟩,
  ⟨some 7, .val (.bin .geq false (.t 6) (.k (.int .i64 0))), none⟩,
  ⟨some 8, .val (.mov (.t 7)), none⟩,
  ⟨some 9, .val (.field 0 (.t 3)), some (8, true)⟩,
  ⟨some 10, .val (.load1 (.t 9)), some (8, true)⟩,
  ⟨some 11, .val (.field 0 (.t 2)), some (8, true)⟩,
  ⟨some 12, .val (.load1 (.t 11)), some (8, true)⟩,
  ⟨some 13, .val (.lenS (.t 12)), some (8, true)⟩,
  ⟨some 14, .val (.bin .lss false (.t 10) (.t 13)), some (8, true)⟩,
  ⟨some 15, .val (.pand (.t 8) (.t 14)), none⟩,
  ⟨some 16, .val (.mov (.t 15)), none⟩,
  ⟨some 17, .val (.field 1 (.t 3)), some (16, true)⟩,
  ⟨some 18, .val (.load1 (.t 17)), some (16, true)⟩,
  ⟨some 19, .val (.lenT (.t 18)), some (16, true)⟩,
  ⟨some 20, .val (.bin .eql false (.t 19) (.k (.int .i64 16))), some (16, true)⟩,
  ⟨some 21, .val (.pand (.t 16) (.t 20)), none⟩,
  ⟨some 4, .val (.mov (.t 21)), none⟩]
def disk_fits_c : ACode :=
  (.seq
    (.reg disk_fits_r0 (some ([2, 3], [2, 3])))
    (.seq
      (.reg disk_fits_r1 (some ([4], [])))
      .ret))
def disk_fits_k (P : Program) (F : Nat → Nat) : Prop := chkFn P (F 51) 2 (disk_fits_c) [4] = true

/- slices.Clone[[]lockkeeper/api.Write,lockkeeper/api.Write] : names 0 s, 1 s uns [] -/
/- slices.go:355 -/
def sl_Clone_api_Write_r0 : List AOper := [
  ⟨some 2, .val (.mov (.k (.nil 2))), none⟩]
/- slices.go:357 -/
def sl_Clone_api_Write_r1 : List AOper := [
  ⟨some 3, .val (.mov (.t 0)), none⟩,
  ⟨some 4, .val (.nilS (.t 3)), none⟩]
/- slices.go:358 -/
def sl_Clone_api_Write_r2 : List AOper := [
  ⟨some 2, .val (.mov (.k (.nil 2))), none⟩]
/- slices.go:362 -/
def sl_Clone_api_Write_r3 : List AOper := [
  ⟨some 5, .buildS 2 0 [.int .i64 0, .str []] [], none⟩,
  ⟨some 6, .val (.mov (.t 0)), none⟩,
  ⟨some 7, .app 2 24 (.t 5) (.t 6), none⟩,
  ⟨some 2, .val (.mov (.t 7)), none⟩]
def sl_Clone_api_Write_c : ACode :=
  (.seq
    (.reg sl_Clone_api_Write_r0 (some ([0], [5, 7])))
    (.seq
      (.seq
        (.reg sl_Clone_api_Write_r1 (some ([0, 4], [5, 7])))
        (.cond (.t 4)
          (.seq
            (.reg sl_Clone_api_Write_r2 (some ([2], [5, 7])))
            .ret)
          .skip))
      (.seq
        (.reg sl_Clone_api_Write_r3 (some ([2], [5, 7])))
        .ret)))
def sl_Clone_api_Write_k (P : Program) (F : Nat → Nat) : Prop := chkFn P (F 52) 1 (sl_Clone_api_Write_c) [2] = true

/- slices.Backward[[]lockkeeper/api.Write,lockkeeper/api.Write] : names 0 s, 1 s uns ['const nilFunc', 'makeFunc'] -/
/- iter.go:26 -/
def sl_Backward_api_Write_r0 : List AOper := [
  ⟨some 1, .box 1 (.t 0), none⟩,
  ⟨some 2, .halt, none⟩ /- const nilFunc -/]
/- iter.go:27 -/
def sl_Backward_api_Write_r1 : List AOper := [
  ⟨some 3, .halt, none⟩ /- makeFunc -/,
  ⟨some 2, .val (.mov (.t 3)), none⟩]
def sl_Backward_api_Write_c : ACode :=
  (.seq
    (.reg sl_Backward_api_Write_r0 (some ([1], [1])))
    (.seq
      (.reg sl_Backward_api_Write_r1 (some ([2], [])))
      .ret))
def sl_Backward_api_Write_k (P : Program) (F : Nat → Nat) : Prop := chkFn P (F 53) 1 (sl_Backward_api_Write_c) [2] = true

/- lockkeeper/lockkeeperref03.in : names 0 l, 1 n, 2 l, 3 n, 5 i uns [] -/
/- ref.go:38 -/
def ref03_in_r0 : List AOper := [
  ⟨some 4, .val (.mov (.k (.bool false))), none⟩]
/- ref.go:39 -/
def ref03_in_r1 : List AOper := [
  ⟨some 5, .val (.mov (.k (.int .i64 0))), none⟩]
/- ref.go:39 -/
def ref03_in_r2 : List AOper := [
  ⟨some 6, .val (.mov (.t 5)), none⟩,
  ⟨some 7, .val (.mov (.t 0)), none⟩,
  ⟨some 8, .val (.lenS (.t 7)), none⟩,
  ⟨some 9, .val (.bin .lss false (.t 6) (.t 8)), none⟩]
/- ref.go:40 -/
def ref03_in_r4 : List AOper := [
  ⟨some 12, .val (.mov (.t 0)), none⟩,
  ⟨some 13, .val (.mov (.t 5)), none⟩,
  ⟨some 14, .val (.ixS 1 (.t 12) (.t 13)), none⟩,
  ⟨some 15, .val (.load1 (.t 14)), none⟩,
  ⟨some 16, .val (.mov (.t 1)), none⟩,
  ⟨some 17, .val (.bin .eql false (.t 15) (.t 16)), none⟩]
/- ref.go:41 -/
def ref03_in_r5 : List AOper := [
  ⟨some 4, .val (.mov (.k (.bool true))), none⟩]
/- ref.go:39 -/
def ref03_in_r3 : List AOper := [
  ⟨some 10, .val (.mov (.t 5)), none⟩,
  ⟨some 11, .val (.bin .add true (.t 10) (.k (.int .i64 1))), none⟩,
  ⟨some 5, .val (.mov (.t 11)), none⟩]
/- ref.go:44 -/
def ref03_in_r6 : List AOper := [
  ⟨some 4, .val (.mov (.k (.bool false))), none⟩]
def ref03_in_c : ACode :=
  (.seq
    (.reg ref03_in_r0 (some ([0, 1], [])))
    (.seq
      (.seq
        (.reg ref03_in_r1 (some ([0, 1, 5], [])))
        (.block 0
          (.loop
            (.seq
              (.seq
                (.reg ref03_in_r2 (some ([0, 1, 5, 9], [])))
                (.cond (.t 9)
                  .skip
                  (.exit 0)))
              (.seq
                (.block 1
                  (.seq
                    (.reg ref03_in_r4 (some ([0, 1, 5, 17], [])))
                    (.cond (.t 17)
                      (.seq
                        (.reg ref03_in_r5 (some ([4], [])))
                        .ret)
                      .skip)))
                (.reg ref03_in_r3 (some ([0, 1, 5], []))))))))
      (.seq
        (.reg ref03_in_r6 (some ([4], [])))
        .ret)))
def ref03_in_k (P : Program) (F : Nat → Nat) : Prop := chkFn P (F 54) 2 (ref03_in_c) [4] = true

/- slices.Clone[[]string,string] : names 0 s, 1 s uns [] -/
/- slices.go:355 -/
def sl_Clone_string_r0 : List AOper := [
  ⟨some 2, .val (.mov (.k (.nil 1))), none⟩]
/- slices.go:357 -/
def sl_Clone_string_r1 : List AOper := [
  ⟨some 3, .val (.mov (.t 0)), none⟩,
  ⟨some 4, .val (.nilS (.t 3)), none⟩]
/- slices.go:358 -/
def sl_Clone_string_r2 : List AOper := [
  ⟨some 2, .val (.mov (.k (.nil 1))), none⟩]
/- slices.go:362 -/
def sl_Clone_string_r3 : List AOper := [
  ⟨some 5, .buildS 1 0 [.str []] [], none⟩,
  ⟨some 6, .val (.mov (.t 0)), none⟩,
  ⟨some 7, .app 1 16 (.t 5) (.t 6), none⟩,
  ⟨some 2, .val (.mov (.t 7)), none⟩]
def sl_Clone_string_c : ACode :=
  (.seq
    (.reg sl_Clone_string_r0 (some ([0], [5, 7])))
    (.seq
      (.seq
        (.reg sl_Clone_string_r1 (some ([0, 4], [5, 7])))
        (.cond (.t 4)
          (.seq
            (.reg sl_Clone_string_r2 (some ([2], [5, 7])))
            .ret)
          .skip))
      (.seq
        (.reg sl_Clone_string_r3 (some ([2], [5, 7])))
        .ret)))
def sl_Clone_string_k (P : Program) (F : Nat → Nat) : Prop := chkFn P (F 55) 1 (sl_Clone_string_c) [2] = true

/- slices.Backward[[]lockkeeper/api.Write,lockkeeper/api.Write]$1 : names 0 yield, 2 yield, 3 i uns [] -/
/- iter.go:28 -/
def sl_Backward_api_Write_1_r0 : List AOper := [
  ⟨some 4, .val (.load1 (.t 1)), none⟩,
  ⟨some 5, .val (.lenS (.t 4)), none⟩,
  ⟨some 6, .val (.bin .sub true (.t 5) (.k (.int .i64 1))), none⟩,
  ⟨some 3, .val (.mov (.t 6)), none⟩]
/- iter.go:28 -/
def sl_Backward_api_Write_1_r1 : List AOper := [
  ⟨some 7, .val (.mov (.t 3)), none⟩,
  ⟨some 8, .val (.bin .geq false (.t 7) (.k (.int .i64 0))), none⟩]
/- iter.go:29 -/
def sl_Backward_api_Write_1_r3 : List AOper := [
  ⟨some 11, .val (.mov (.t 0)), none⟩,
  ⟨some 12, .val (.mov (.t 3)), none⟩,
  ⟨some 13, .val (.load1 (.t 1)), none⟩,
  ⟨some 14, .val (.mov (.t 3)), none⟩,
  ⟨some 15, .val (.ixS 2 (.t 13) (.t 14)), none⟩,
  ⟨some 16, .val (.loadA 2 (.t 15)), none⟩,
  ⟨some 17, .callv (.t 11) [(.t 12), (.t 16)], none⟩,
  ⟨some 18, .val (.not (.t 17)), none⟩]
/- iter.go:28 -/
def sl_Backward_api_Write_1_r2 : List AOper := [
  ⟨some 9, .val (.mov (.t 3)), none⟩,
  ⟨some 10, .val (.bin .sub true (.t 9) (.k (.int .i64 1))), none⟩,
  ⟨some 3, .val (.mov (.t 10)), none⟩]
def sl_Backward_api_Write_1_c : ACode :=
  (.seq
    (.reg sl_Backward_api_Write_1_r0 (some ([0, 1, 3], [])))
    (.block 0
      (.loop
        (.seq
          (.seq
            (.reg sl_Backward_api_Write_1_r1 (some ([0, 1, 3, 8], [])))
            (.cond (.t 8)
              .skip
              (.exit 0)))
          (.seq
            (.block 1
              (.seq
                (.reg sl_Backward_api_Write_1_r3 (some ([0, 1, 3, 18], [])))
                (.cond (.t 18)
                  .ret
                  .skip)))
            (.reg sl_Backward_api_Write_1_r2 (some ([0, 1, 3], []))))))))
def sl_Backward_api_Write_1_k (P : Program) (F : Nat → Nat) : Prop := chkFn P (F 56) 1 (sl_Backward_api_Write_1_c) [] = true

end Lk.C
