/-
  The code of functions, as the abstract machine's, over any numbering F of the program's functions.
-/
import Derived.Test.YtdpghfcbkcjecaaLkC
namespace Lk.C
open Go Lk
/- lockkeeper/lockkeeperlaw09.ClockSweeps : names 0 c, 1 frame, 2 c, 3 frame, 5 x, 6 ok, 7 a, 8 at, 9 is, 10 t, 11 y, 12 p, 13 z, 14 q, 15 right, 16 w, 17 n, 18 touched, 19 i, 20 f uns [] -/
/- law.go:30 -/
def law09_ClockSweeps_r0 : List AOper := [
  ⟨some 2, .box 2 (.t 0), none⟩,
  ⟨some 4, .val (.mov (.k (.bool false))), none⟩]
/- law.go:31 -/
def law09_ClockSweeps_r1 (F : Nat → Nat) : List AOper := [
  ⟨some 22, .val (.loadA 2 (.t 2)), none⟩,
  ⟨some 23, .call (F 0) [(.t 22)], none⟩,
  ⟨some 21, .val (.mov (.t 23)), none⟩,
  ⟨some 24, .val (.extr 0 (.t 21)), none⟩,
  ⟨some 25, .val (.extr 1 (.t 21)), none⟩,
  ⟨some 5, .alloc 2 [.nil 3, .int .i64 0], none⟩,
  ⟨none, .stA true 2 (.t 5) (.t 24), none⟩,
  ⟨some 6, .val (.mov (.t 25)), none⟩]
/- law.go:32 -/
def law09_ClockSweeps_r2 : List AOper := [
  ⟨some 26, .val (.mov (.t 6)), none⟩,
  ⟨some 27, .val (.not (.t 26)), none⟩]
/- law.go:33 -/
def law09_ClockSweeps_r3 (F : Nat → Nat) : List AOper := [
  ⟨some 28, .call (F 1) [], none⟩,
  ⟨some 4, .val (.mov (.t 28)), none⟩]
/- law.go:35 -/
def law09_ClockSweeps_r4 (F : Nat → Nat) : List AOper := [
  ⟨some 30, .val (.loadA 2 (.t 2)), none⟩,
  ⟨some 31, .call (F 2) [(.t 30)], none⟩,
  ⟨some 29, .val (.mov (.t 31)), none⟩,
  ⟨some 32, .val (.extr 0 (.t 29)), none⟩,
  ⟨some 33, .val (.extr 1 (.t 29)), none⟩,
  ⟨some 34, .val (.extr 2 (.t 29)), none⟩,
  ⟨some 7, .alloc 2 [.nil 3, .int .i64 0], none⟩,
  ⟨none, .stA true 2 (.t 7) (.t 32), none⟩,
  ⟨some 8, .val (.mov (.t 33)), none⟩,
  ⟨some 9, .val (.mov (.t 34)), none⟩]
/- law.go:36 -/
def law09_ClockSweeps_r5 (F : Nat → Nat) : List AOper := [
  ⟨some 35, .val (.loadA 2 (.t 2)), none⟩,
  ⟨some 36, .val (.mov (.t 1)), none⟩,
  ⟨some 37, .call (F 3) [(.t 35), (.t 36)], none⟩,
  ⟨some 10, .alloc 2 [.nil 3, .int .i64 0], none⟩,
  ⟨none, .stA true 2 (.t 10) (.t 37), none⟩]
/- law.go:37 -/
def law09_ClockSweeps_r6 (F : Nat → Nat) : List AOper := [
  ⟨some 39, .val (.loadA 2 (.t 7)), none⟩,
  ⟨some 40, .call (F 0) [(.t 39)], none⟩,
  ⟨some 38, .val (.mov (.t 40)), none⟩,
  ⟨some 41, .val (.extr 0 (.t 38)), none⟩,
  ⟨some 42, .val (.extr 1 (.t 38)), none⟩,
  ⟨some 11, .alloc 2 [.nil 3, .int .i64 0], none⟩,
  ⟨none, .stA true 2 (.t 11) (.t 41), none⟩,
  ⟨some 12, .val (.mov (.t 42)), none⟩]
/- law.go:38 -/
def law09_ClockSweeps_r7 (F : Nat → Nat) : List AOper := [
  ⟨some 44, .val (.loadA 2 (.t 10)), none⟩,
  ⟨some 45, .call (F 0) [(.t 44)], none⟩,
  ⟨some 43, .val (.mov (.t 45)), none⟩,
  ⟨some 46, .val (.extr 0 (.t 43)), none⟩,
  ⟨some 47, .val (.extr 1 (.t 43)), none⟩,
  ⟨some 13, .alloc 2 [.nil 3, .int .i64 0], none⟩,
  ⟨none, .stA true 2 (.t 13) (.t 46), none⟩,
  ⟨some 14, .val (.mov (.t 47)), none⟩]
/- law.go:39 -/
def law09_ClockSweeps_r8 (F : Nat → Nat) : List AOper := [
  ⟨some 48, .val (.loadA 2 (.t 5)), none⟩,
  ⟨some 49, .call (F 4) [(.t 48)], none⟩,
  ⟨some 15, .val (.mov (.t 49)), none⟩]
/- law.go:40 -/
def law09_ClockSweeps_r9 (F : Nat → Nat) : List AOper := [
  ⟨some 50, .val (.mov (.t 12)), none⟩,
  ⟨some 51, .val (.not (.t 50)), none⟩,
  ⟨some 52, .val (.mov (.t 51)), none⟩,
  ⟨some 53, .val (.mov (.t 14)), some (52, false)⟩,
  ⟨some 54, .val (.not (.t 53)), some (52, false)⟩,
  ⟨some 55, .val (.por (.t 52) (.t 54)), none⟩,
  ⟨some 56, .val (.mov (.t 55)), none⟩,
  ⟨some 57, .val (.loadA 2 (.t 2)), some (56, false)⟩,
  ⟨some 58, .call (F 5) [(.t 57)], some (56, false)⟩,
  ⟨some 59, .val (.mov (.t 15)), some (56, false)⟩,
  ⟨some 60, .val (.eqB true (.t 58) (.t 59)), some (56, false)⟩,
  ⟨some 61, .val (.por (.t 56) (.t 60)), none⟩]
/- law.go:41 -/
def law09_ClockSweeps_r10 : List AOper := [
  ⟨some 4, .val (.mov (.k (.bool false))), none⟩]
/- law.go:43 -/
def law09_ClockSweeps_r11 : List AOper := [
  ⟨some 62, .val (.mov (.t 15)), none⟩,
  ⟨some 63, .val (.not (.t 62)), none⟩]
/- law.go:44 -/
def law09_ClockSweeps_r12 (F : Nat → Nat) : List AOper := [
  ⟨some 64, .val (.mov (.t 9)), none⟩,
  ⟨some 65, .val (.not (.t 64)), none⟩,
  ⟨some 66, .val (.mov (.t 65)), none⟩,
  ⟨some 67, .val (.mov (.t 8)), some (66, true)⟩,
  ⟨some 68, .val (.bin .eql false (.t 67) (.k (.int .i64 0))), some (66, true)⟩,
  ⟨some 69, .val (.pand (.t 66) (.t 68)), none⟩,
  ⟨some 70, .val (.mov (.t 69)), none⟩,
  ⟨some 71, .val (.loadA 2 (.t 5)), some (70, true)⟩,
  ⟨some 72, .val (.loadA 2 (.t 11)), some (70, true)⟩,
  ⟨some 73, .call (F 6) [(.t 71), (.t 72)], some (70, true)⟩,
  ⟨some 74, .val (.pand (.t 70) (.t 73)), none⟩,
  ⟨some 75, .val (.mov (.t 74)), none⟩,
  ⟨some 76, .val (.loadA 2 (.t 5)), some (75, true)⟩,
  ⟨some 77, .val (.loadA 2 (.t 13)), some (75, true)⟩,
  ⟨some 78, .call (F 6) [(.t 76), (.t 77)], some (75, true)⟩,
  ⟨some 79, .val (.pand (.t 75) (.t 78)), none⟩,
  ⟨some 80, .val (.mov (.t 79)), none⟩,
  ⟨some 81, .call (F 1) [], some (80, true)⟩,
  ⟨some 82, .val (.pand (.t 80) (.t 81)), none⟩,
  ⟨some 4, .val (.mov (.t 82)), none⟩]
/- law.go:46 -/
def law09_ClockSweeps_r13 (F : Nat → Nat) : List AOper := [
  ⟨some 84, .val (.loadA 2 (.t 5)), none⟩,
  ⟨some 85, .call (F 7) [(.t 84)], none⟩,
  ⟨some 83, .val (.mov (.t 85)), none⟩,
  ⟨some 86, .val (.extr 0 (.t 83)), none⟩,
  ⟨some 87, .val (.extr 1 (.t 83)), none⟩,
  ⟨some 16, .alloc 2 [.nil 3, .int .i64 0], none⟩,
  ⟨none, .stA true 2 (.t 16) (.t 86), none⟩,
  ⟨some 17, .val (.mov (.t 87)), none⟩]
/- law.go:47 -/
def law09_ClockSweeps_r14 (F : Nat → Nat) : List AOper := [
  ⟨some 88, .val (.mov (.t 9)), none⟩,
  ⟨some 89, .val (.mov (.t 17)), none⟩,
  ⟨some 90, .val (.bin .geq false (.t 89) (.k (.int .i64 0))), none⟩,
  ⟨some 91, .val (.eqB true (.t 88) (.t 90)), none⟩,
  ⟨some 92, .val (.mov (.t 91)), none⟩,
  ⟨some 93, .val (.mov (.t 8)), some (92, false)⟩,
  ⟨some 94, .val (.mov (.t 17)), some (92, false)⟩,
  ⟨some 95, .val (.mm true (.t 94) [(.k (.int .i64 0))]), some (92, false)⟩,
  ⟨some 96, .val (.bin .neq false (.t 93) (.t 95)), some (92, false)⟩,
  ⟨some 97, .val (.por (.t 92) (.t 96)), none⟩,
  ⟨some 98, .val (.mov (.t 97)), none⟩,
  ⟨some 99, .val (.loadA 2 (.t 16)), some (98, false)⟩,
  ⟨some 100, .val (.loadA 2 (.t 11)), some (98, false)⟩,
  ⟨some 101, .call (F 6) [(.t 99), (.t 100)], some (98, false)⟩,
  ⟨some 102, .val (.not (.t 101)), some (98, false)⟩,
  ⟨some 103, .val (.por (.t 98) (.t 102)), none⟩]
/- law.go:48 -/
def law09_ClockSweeps_r15 : List AOper := [
  ⟨some 4, .val (.mov (.k (.bool false))), none⟩]
/- law.go:50 -/
def law09_ClockSweeps_r16 : List AOper := [
  ⟨some 104, .val (.field 1 (.t 5)), none⟩,
  ⟨some 105, .val (.load1 (.t 104)), none⟩,
  ⟨some 106, .val (.build 2 [.nil 3, .int .i64 0] [(1, 1, (.t 105))]), none⟩,
  ⟨some 18, .alloc 2 [.nil 3, .int .i64 0], none⟩,
  ⟨none, .stA true 2 (.t 18) (.t 106), none⟩]
/- law.go:51 -/
def law09_ClockSweeps_r17 : List AOper := [
  ⟨some 107, .val (.field 0 (.t 5)), none⟩,
  ⟨some 108, .val (.load1 (.t 107)), none⟩,
  ⟨some 109, .val (.lenS (.t 108)), none⟩,
  ⟨some 110, .val (.mov (.k (.int .i64 0))), none⟩]
/- law.go:51 -/
def law09_ClockSweeps_r18 : List AOper := [
  ⟨some 111, .val (.bin .lss false (.t 110) (.t 109)), none⟩]
/- law.go:51 -/
def law09_ClockSweeps_r19 : List AOper := [
  ⟨some 112, .val (.mov (.t 110)), none⟩,
  ⟨some 113, .val (.ixS 3 (.t 108) (.t 110)), none⟩,
  ⟨some 114, .val (.loadA 3 (.t 113)), none⟩,
  ⟨some 20, .alloc 3 [.int .i64 0, .int .i64 0, .bool false], none⟩,
  ⟨some 19, .val (.mov (.t 112)), none⟩,
  ⟨none, .stA true 3 (.t 20) (.t 114), none⟩]
/- law.go:52 -/
def law09_ClockSweeps_r20 : List AOper := [
  ⟨some 115, .val (.field 2 (.t 20)), none⟩,
  ⟨some 116, .val (.load1 (.t 115)), none⟩,
  ⟨some 117, .val (.mov (.t 116)), none⟩,
  ⟨some 118, .val (.mov (.t 19)), some (117, false)⟩,
  ⟨some 119, .val (.mov (.t 1)), some (117, false)⟩,
  ⟨some 120, .val (.bin .eql false (.t 118) (.t 119)), some (117, false)⟩,
  ⟨some 121, .val (.por (.t 117) (.t 120)), none⟩,
  ⟨some 122, .val (.field 2 (.t 20)), none⟩,
  ⟨none, .st1 true (.t 122) (.t 121), none⟩]
/- law.go:53 -/
def law09_ClockSweeps_r21 : List AOper := [
  ⟨some 123, .val (.field 0 (.t 18)), none⟩,
  ⟨some 124, .val (.load1 (.t 123)), none⟩,
  ⟨some 125, .val (.loadA 3 (.t 20)), none⟩,
  ⟨some 126, .buildS 3 1 [.int .i64 0, .int .i64 0, .bool false] [(0, (.t 125))], none⟩,
  ⟨some 127, .app 3 24 (.t 124) (.t 126), none⟩,
  ⟨some 128, .val (.field 0 (.t 18)), none⟩,
  ⟨none, .st1 true (.t 128) (.t 127), none⟩]
/- law.go:51 -/
def law09_ClockSweeps_r22 : List AOper := [
  ⟨some 129, .val (.bin .add true (.t 110) (.k (.int .i64 1))), none⟩,
  ⟨some 110, .val (.mov (.t 129)), none⟩]
/- law.go:55 -/
def law09_ClockSweeps_r23 (F : Nat → Nat) : List AOper := [
  ⟨some 130, .val (.loadA 2 (.t 18)), none⟩,
  ⟨some 131, .val (.loadA 2 (.t 13)), none⟩,
  ⟨some 132, .call (F 6) [(.t 130), (.t 131)], none⟩,
  ⟨some 133, .val (.mov (.t 132)), none⟩,
  ⟨some 134, .call (F 1) [], some (133, true)⟩,
  ⟨some 135, .val (.pand (.t 133) (.t 134)), none⟩,
  ⟨some 4, .val (.mov (.t 135)), none⟩]
def law09_ClockSweeps_c (F : Nat → Nat) : ACode :=
  (.seq
    (.reg law09_ClockSweeps_r0 (some ([1, 2], [2, 126, 127])))
    (.seq
      (.reg (law09_ClockSweeps_r1 F) (some ([1, 2, 5, 6], [2, 5, 126, 127])))
      (.seq
        (.seq
          (.reg law09_ClockSweeps_r2 (some ([1, 2, 5, 27], [2, 5, 126, 127])))
          (.cond (.t 27)
            (.seq
              (.reg (law09_ClockSweeps_r3 F) (some ([4], [126, 127])))
              .ret)
            .skip))
        (.seq
          (.reg (law09_ClockSweeps_r4 F) (some ([1, 2, 5, 7, 8, 9], [2, 5, 7, 126, 127])))
          (.seq
            (.reg (law09_ClockSweeps_r5 F) (some ([1, 2, 5, 7, 8, 9, 10], [2, 5, 7, 10, 126, 127])))
            (.seq
              (.reg (law09_ClockSweeps_r6 F) (some ([1, 2, 5, 8, 9, 10, 11, 12], [2, 5, 10, 11, 126, 127])))
              (.seq
                (.reg (law09_ClockSweeps_r7 F) (some ([1, 2, 5, 8, 9, 11, 12, 13, 14], [2, 5, 11, 13, 126, 127])))
                (.seq
                  (.reg (law09_ClockSweeps_r8 F) (some ([1, 2, 5, 8, 9, 11, 12, 13, 14, 15], [2, 5, 11, 13, 126, 127])))
                  (.seq
                    (.seq
                      (.reg (law09_ClockSweeps_r9 F) (some ([1, 5, 8, 9, 11, 13, 15, 61], [5, 11, 13, 126, 127])))
                      (.cond (.t 61)
                        (.seq
                          (.reg law09_ClockSweeps_r10 (some ([4], [126, 127])))
                          .ret)
                        .skip))
                    (.seq
                      (.seq
                        (.reg law09_ClockSweeps_r11 (some ([1, 5, 8, 9, 11, 13, 63], [5, 11, 13, 126, 127])))
                        (.cond (.t 63)
                          (.seq
                            (.reg (law09_ClockSweeps_r12 F) (some ([4], [126, 127])))
                            .ret)
                          .skip))
                      (.seq
                        (.reg (law09_ClockSweeps_r13 F) (some ([1, 5, 8, 9, 11, 13, 16, 17], [5, 11, 13, 16, 126, 127])))
                        (.seq
                          (.seq
                            (.reg (law09_ClockSweeps_r14 F) (some ([1, 5, 13, 103], [5, 13, 126, 127])))
                            (.cond (.t 103)
                              (.seq
                                (.reg law09_ClockSweeps_r15 (some ([4], [126, 127])))
                                .ret)
                              .skip))
                          (.seq
                            (.reg law09_ClockSweeps_r16 (some ([1, 5, 13, 18], [5, 13, 18, 126, 127])))
                            (.seq
                              (.seq
                                (.reg law09_ClockSweeps_r17 (some ([1, 13, 18, 108, 109, 110], [13, 18, 126, 127])))
                                (.block 0
                                  (.loop
                                    (.seq
                                      (.reg law09_ClockSweeps_r18 (some ([1, 13, 18, 108, 109, 110, 111], [13, 18, 126, 127])))
                                      (.seq
                                        (.cond (.t 111)
                                          .skip
                                          (.exit 0))
                                        (.seq
                                          (.block 1
                                            (.seq
                                              (.reg law09_ClockSweeps_r19 (some ([1, 13, 18, 19, 20, 108, 109, 110], [13, 18, 20, 126, 127])))
                                              (.seq
                                                (.reg law09_ClockSweeps_r20 (some ([1, 13, 18, 20, 108, 109, 110], [13, 18, 20, 126, 127])))
                                                (.reg law09_ClockSweeps_r21 (some ([1, 13, 18, 108, 109, 110], [13, 18, 126, 127]))))))
                                          (.reg law09_ClockSweeps_r22 (some ([1, 13, 18, 108, 109, 110], [13, 18, 126, 127])))))))))
                              (.seq
                                (.reg (law09_ClockSweeps_r23 F) (some ([4], [126, 127])))
                                .ret)))))))))))))))
def law09_ClockSweeps_k (P : Program) (F : Nat → Nat) : Prop := chkFn P (F 8) 2 (law09_ClockSweeps_c F) [4] = true

/- lockkeeper/lockkeeperlaw09.ClockFair : names 0 c, 1 c, 3 x, 4 ok, 5 free, 6 fresh, 7 _, 8 f, 9 d, 10 at, 11 is, 12 i, 13 f uns [] -/
/- law.go:59 -/
def law09_ClockFair_r0 : List AOper := [
  ⟨some 1, .box 2 (.t 0), none⟩,
  ⟨some 2, .val (.mov (.k (.bool false))), none⟩]
/- law.go:60 -/
def law09_ClockFair_r1 (F : Nat → Nat) : List AOper := [
  ⟨some 15, .val (.loadA 2 (.t 1)), none⟩,
  ⟨some 16, .call (F 0) [(.t 15)], none⟩,
  ⟨some 14, .val (.mov (.t 16)), none⟩,
  ⟨some 17, .val (.extr 0 (.t 14)), none⟩,
  ⟨some 18, .val (.extr 1 (.t 14)), none⟩,
  ⟨some 3, .alloc 2 [.nil 3, .int .i64 0], none⟩,
  ⟨none, .stA true 2 (.t 3) (.t 17), none⟩,
  ⟨some 4, .val (.mov (.t 18)), none⟩]
/- law.go:61 -/
def law09_ClockFair_r2 (F : Nat → Nat) : List AOper := [
  ⟨some 19, .val (.mov (.t 4)), none⟩,
  ⟨some 20, .val (.not (.t 19)), none⟩,
  ⟨some 21, .val (.mov (.t 20)), none⟩,
  ⟨some 22, .val (.loadA 2 (.t 3)), some (21, false)⟩,
  ⟨some 23, .call (F 4) [(.t 22)], some (21, false)⟩,
  ⟨some 24, .val (.not (.t 23)), some (21, false)⟩,
  ⟨some 25, .val (.por (.t 21) (.t 24)), none⟩]
/- law.go:62 -/
def law09_ClockFair_r3 (F : Nat → Nat) : List AOper := [
  ⟨some 26, .call (F 1) [], none⟩,
  ⟨some 2, .val (.mov (.t 26)), none⟩]
/- law.go:64 -/
def law09_ClockFair_r4 : List AOper := [
  ⟨some 5, .val (.mov (.k (.int .i64 0))), none⟩,
  ⟨some 6, .val (.mov (.k (.int .i64 0))), none⟩]
/- law.go:65 -/
def law09_ClockFair_r5 : List AOper := [
  ⟨some 27, .val (.field 0 (.t 1)), none⟩,
  ⟨some 28, .val (.load1 (.t 27)), none⟩,
  ⟨some 29, .val (.lenS (.t 28)), none⟩,
  ⟨some 30, .val (.mov (.k (.int .i64 0))), none⟩]
/- law.go:65 -/
def law09_ClockFair_r6 : List AOper := [
  ⟨some 31, .val (.bin .lss false (.t 30) (.t 29)), none⟩]
/- law.go:65 -/
def law09_ClockFair_r7 : List AOper := [
  ⟨some 32, .val (.ixS 3 (.t 28) (.t 30)), none⟩,
  ⟨some 33, .val (.loadA 3 (.t 32)), none⟩,
  ⟨some 8, .alloc 3 [.int .i64 0, .int .i64 0, .bool false], none⟩,
  ⟨none, .stA true 3 (.t 8) (.t 33), none⟩]
/- law.go:66 -/
def law09_ClockFair_r8 : List AOper := [
  ⟨some 34, .val (.field 1 (.t 8)), none⟩,
  ⟨some 35, .val (.load1 (.t 34)), none⟩,
  ⟨some 36, .val (.bin .eql false (.t 35) (.k (.int .i64 0))), none⟩]
/- law.go:67 -/
def law09_ClockFair_r9 : List AOper := [
  ⟨some 37, .val (.mov (.t 5)), none⟩,
  ⟨some 38, .val (.bin .add true (.t 37) (.k (.int .i64 1))), none⟩,
  ⟨some 5, .val (.mov (.t 38)), none⟩]
/- law.go:68 -/
def law09_ClockFair_r10 : List AOper := [
  ⟨some 39, .val (.field 2 (.t 8)), none⟩,
  ⟨some 40, .val (.load1 (.t 39)), none⟩,
  ⟨some 41, .val (.not (.t 40)), none⟩]
/- law.go:69 -/
def law09_ClockFair_r11 : List AOper := [
  ⟨some 42, .val (.mov (.t 6)), none⟩,
  ⟨some 43, .val (.bin .add true (.t 42) (.k (.int .i64 1))), none⟩,
  ⟨some 6, .val (.mov (.t 43)), none⟩]
/- law.go:65 -/
def law09_ClockFair_r12 : List AOper := [
  ⟨some 44, .val (.bin .add true (.t 30) (.k (.int .i64 1))), none⟩,
  ⟨some 30, .val (.mov (.t 44)), none⟩]
/- law.go:73 -/
def law09_ClockFair_r13 (F : Nat → Nat) : List AOper := [
  ⟨some 46, .val (.loadA 2 (.t 1)), none⟩,
  ⟨some 47, .call (F 2) [(.t 46)], none⟩,
  ⟨some 45, .val (.mov (.t 47)), none⟩,
  ⟨some 48, .val (.extr 0 (.t 45)), none⟩,
  ⟨some 49, .val (.extr 1 (.t 45)), none⟩,
  ⟨some 50, .val (.extr 2 (.t 45)), none⟩,
  ⟨some 9, .alloc 2 [.nil 3, .int .i64 0], none⟩,
  ⟨none, .stA true 2 (.t 9) (.t 48), none⟩,
  ⟨some 10, .val (.mov (.t 49)), none⟩,
  ⟨some 11, .val (.mov (.t 50)), none⟩]
/- law.go:74 -/
def law09_ClockFair_r14 : List AOper := [
  ⟨some 51, .val (.mov (.t 11)), none⟩,
  ⟨some 52, .val (.mov (.t 5)), none⟩,
  ⟨some 53, .val (.bin .gtr false (.t 52) (.k (.int .i64 0))), none⟩,
  ⟨some 54, .val (.eqB true (.t 51) (.t 53)), none⟩,
  ⟨some 55, .val (.mov (.t 54)), none⟩,
  ⟨some 56, .val (.field 0 (.t 9)), some (55, false)⟩,
  ⟨some 57, .val (.load1 (.t 56)), some (55, false)⟩,
  ⟨some 58, .val (.lenS (.t 57)), some (55, false)⟩,
  ⟨some 59, .val (.field 0 (.t 1)), some (55, false)⟩,
  ⟨some 60, .val (.load1 (.t 59)), some (55, false)⟩,
  ⟨some 61, .val (.lenS (.t 60)), some (55, false)⟩,
  ⟨some 62, .val (.bin .neq false (.t 58) (.t 61)), some (55, false)⟩,
  ⟨some 63, .val (.por (.t 55) (.t 62)), none⟩]
/- law.go:75 -/
def law09_ClockFair_r15 : List AOper := [
  ⟨some 2, .val (.mov (.k (.bool false))), none⟩]
/- law.go:77 -/
def law09_ClockFair_r16 : List AOper := [
  ⟨some 64, .val (.mov (.t 11)), none⟩,
  ⟨some 65, .val (.not (.t 64)), none⟩]
/- law.go:78 -/
def law09_ClockFair_r17 (F : Nat → Nat) : List AOper := [
  ⟨some 66, .call (F 1) [], none⟩,
  ⟨some 2, .val (.mov (.t 66)), none⟩]
/- law.go:80 -/
def law09_ClockFair_r18 : List AOper := [
  ⟨some 67, .val (.mov (.t 10)), none⟩,
  ⟨some 68, .val (.bin .lss false (.t 67) (.k (.int .i64 0))), none⟩,
  ⟨some 69, .val (.mov (.t 68)), none⟩,
  ⟨some 70, .val (.mov (.t 10)), some (69, false)⟩,
  ⟨some 71, .val (.field 0 (.t 1)), some (69, false)⟩,
  ⟨some 72, .val (.load1 (.t 71)), some (69, false)⟩,
  ⟨some 73, .val (.lenS (.t 72)), some (69, false)⟩,
  ⟨some 74, .val (.bin .geq false (.t 70) (.t 73)), some (69, false)⟩,
  ⟨some 75, .val (.por (.t 69) (.t 74)), none⟩,
  ⟨some 76, .val (.mov (.t 75)), none⟩,
  ⟨some 77, .val (.field 0 (.t 1)), some (76, false)⟩,
  ⟨some 78, .val (.load1 (.t 77)), some (76, false)⟩,
  ⟨some 79, .val (.mov (.t 10)), some (76, false)⟩,
  ⟨some 80, .val (.ixS 3 (.t 78) (.t 79)), some (76, false)⟩,
  ⟨some 81, .val (.field 1 (.t 80)), some (76, false)⟩,
  ⟨some 82, .val (.load1 (.t 81)), some (76, false)⟩,
  ⟨some 83, .val (.bin .gtr false (.t 82) (.k (.int .i64 0))), some (76, false)⟩,
  ⟨some 84, .val (.por (.t 76) (.t 83)), none⟩,
  ⟨some 85, .val (.mov (.t 84)), none⟩,
  ⟨some 86, .val (.field 0 (.t 1)), some (85, false)⟩,
  ⟨some 87, .val (.load1 (.t 86)), some (85, false)⟩,
  ⟨some 88, .val (.mov (.t 10)), some (85, false)⟩,
  ⟨some 89, .val (.ixS 3 (.t 87) (.t 88)), some (85, false)⟩,
  ⟨some 90, .val (.field 2 (.t 89)), some (85, false)⟩,
  ⟨some 91, .val (.load1 (.t 90)), some (85, false)⟩,
  ⟨some 92, .val (.mov (.t 91)), some (85, false)⟩,
  ⟨some 93, .val (.mov (.t 6)), some (92, true)⟩,
  ⟨some 94, .val (.bin .gtr false (.t 93) (.k (.int .i64 0))), some (92, true)⟩,
  ⟨some 95, .val (.pand (.t 92) (.t 94)), some (85, false)⟩,
  ⟨some 96, .val (.por (.t 85) (.t 95)), none⟩,
  ⟨some 97, .val (.mov (.t 96)), none⟩,
  ⟨some 98, .val (.field 0 (.t 9)), some (97, false)⟩,
  ⟨some 99, .val (.load1 (.t 98)), some (97, false)⟩,
  ⟨some 100, .val (.mov (.t 10)), some (97, false)⟩,
  ⟨some 101, .val (.ixS 3 (.t 99) (.t 100)), some (97, false)⟩,
  ⟨some 102, .val (.field 2 (.t 101)), some (97, false)⟩,
  ⟨some 103, .val (.load1 (.t 102)), some (97, false)⟩,
  ⟨some 104, .val (.por (.t 97) (.t 103)), none⟩]
/- law.go:81 -/
def law09_ClockFair_r19 : List AOper := [
  ⟨some 2, .val (.mov (.k (.bool false))), none⟩]
/- law.go:83 -/
def law09_ClockFair_r20 : List AOper := [
  ⟨some 105, .val (.field 0 (.t 1)), none⟩,
  ⟨some 106, .val (.load1 (.t 105)), none⟩,
  ⟨some 107, .val (.lenS (.t 106)), none⟩,
  ⟨some 108, .val (.mov (.k (.int .i64 0))), none⟩]
/- law.go:83 -/
def law09_ClockFair_r21 : List AOper := [
  ⟨some 109, .val (.bin .lss false (.t 108) (.t 107)), none⟩]
/- law.go:83 -/
def law09_ClockFair_r22 : List AOper := [
  ⟨some 110, .val (.mov (.t 108)), none⟩,
  ⟨some 111, .val (.ixS 3 (.t 106) (.t 108)), none⟩,
  ⟨some 112, .val (.loadA 3 (.t 111)), none⟩,
  ⟨some 13, .alloc 3 [.int .i64 0, .int .i64 0, .bool false], none⟩,
  ⟨some 12, .val (.mov (.t 110)), none⟩,
  ⟨none, .stA true 3 (.t 13) (.t 112), none⟩]
/- law.go:84 DRAWS -/
def law09_ClockFair_r23 : List AOper := [
  ⟨some 113, .val (.field 0 (.t 9)), none⟩,
  ⟨some 114, .val (.load1 (.t 113)), none⟩,
  ⟨some 115, .val (.mov (.t 12)), none⟩,
  ⟨some 116, .val (.ixS 3 (.t 114) (.t 115)), none⟩,
  ⟨some 117, .val (.field 0 (.t 116)), none⟩,
  ⟨some 118, .val (.load1 (.t 117)), none⟩,
  ⟨some 119, .val (.field 0 (.t 13)), none⟩,
  ⟨some 120, .val (.load1 (.t 119)), none⟩,
  ⟨some 121, .val (.bin .neq false (.t 118) (.t 120)), none⟩,
  ⟨some 122, .val (.mov (.t 121)), none⟩,
  ⟨some 123, .val (.field 0 (.t 9)), some (122, false)⟩,
  ⟨some 124, .val (.load1 (.t 123)), some (122, false)⟩,
  ⟨some 125, .val (.mov (.t 12)), some (122, false)⟩,
  ⟨some 126, .val (.ixS 3 (.t 124) (.t 125)), some (122, false)⟩,
  ⟨some 127, .val (.field 1 (.t 126)), some (122, false)⟩,
  ⟨some 128, .val (.load1 (.t 127)), some (122, false)⟩,
  ⟨some 129, .val (.field 1 (.t 13)), some (122, false)⟩,
  ⟨some 130, .val (.load1 (.t 129)), some (122, false)⟩,
  ⟨some 131, .val (.bin .neq false (.t 128) (.t 130)), some (122, false)⟩,
  ⟨some 132, .val (.por (.t 122) (.t 131)), none⟩,
  ⟨some 133, .val (.mov (.t 132)), none⟩,
  ⟨some 134, .val (.field 0 (.t 9)), some (133, false)⟩,
  ⟨some 135, .val (.load1 (.t 134)), some (133, false)⟩,
  ⟨some 136, .val (.mov (.t 12)), some (133, false)⟩,
  ⟨some 137, .val (.ixS 3 (.t 135) (.t 136)), some (133, false)⟩,
  ⟨some 138, .val (.field 2 (.t 137)), some (133, false)⟩,
  ⟨some 139, .val (.load1 (.t 138)), some (133, false)⟩,
  ⟨some 140, .val (.mov (.t 139)), some (133, false)⟩,
  ⟨some 141, .val (.field 2 (.t 13)), some (140, true)⟩,
  ⟨some 142, .val (.load1 (.t 141)), some (140, true)⟩,
  ⟨some 143, .val (.not (.t 142)), some (140, true)⟩,
  ⟨some 144, .val (.pand (.t 140) (.t 143)), some (133, false)⟩,
  ⟨some 145, .val (.por (.t 133) (.t 144)), none⟩,
  ⟨some 146, .val (.mov (.t 145)), none⟩,
  ⟨some 147, .val (.field 1 (.t 13)), some (146, false)⟩,
  ⟨some 148, .val (.load1 (.t 147)), some (146, false)⟩,
  ⟨some 149, .val (.bin .gtr false (.t 148) (.k (.int .i64 0))), some (146, false)⟩,
  ⟨some 150, .val (.mov (.t 149)), some (146, false)⟩,
  ⟨some 151, .val (.field 0 (.t 9)), some (150, true)⟩,
  ⟨some 152, .val (.load1 (.t 151)), some (150, true)⟩,
  ⟨some 153, .val (.mov (.t 12)), some (150, true)⟩,
  ⟨some 154, .val (.ixS 3 (.t 152) (.t 153)), some (150, true)⟩,
  ⟨some 155, .val (.loadA 3 (.t 154)), some (150, true)⟩,
  ⟨some 156, .val (.loadA 3 (.t 13)), some (150, true)⟩,
  ⟨some 157, .val (.eqA true [0, 0, 1] (.t 155) (.t 156)), some (150, true)⟩,
  ⟨some 158, .val (.pand (.t 150) (.t 157)), some (146, false)⟩,
  ⟨some 159, .val (.por (.t 146) (.t 158)), none⟩]
/- law.go:85 -/
def law09_ClockFair_r24 : List AOper := [
  ⟨some 2, .val (.mov (.k (.bool false))), none⟩]
/- law.go:83 -/
def law09_ClockFair_r25 : List AOper := [
  ⟨some 160, .val (.bin .add true (.t 108) (.k (.int .i64 1))), none⟩,
  ⟨some 108, .val (.mov (.t 160)), none⟩]
/- law.go:88 -/
def law09_ClockFair_r26 (F : Nat → Nat) : List AOper := [
  ⟨some 161, .call (F 1) [], none⟩,
  ⟨some 2, .val (.mov (.t 161)), none⟩]
def law09_ClockFair_c (F : Nat → Nat) : ACode :=
  (.seq
    (.reg law09_ClockFair_r0 (some ([1], [1])))
    (.seq
      (.reg (law09_ClockFair_r1 F) (some ([1, 3, 4], [1, 3])))
      (.seq
        (.seq
          (.reg (law09_ClockFair_r2 F) (some ([1, 25], [1])))
          (.cond (.t 25)
            (.seq
              (.reg (law09_ClockFair_r3 F) (some ([2], [])))
              .ret)
            .skip))
        (.seq
          (.reg law09_ClockFair_r4 (some ([1, 5, 6], [1])))
          (.seq
            (.seq
              (.reg law09_ClockFair_r5 (some ([1, 5, 6, 28, 29, 30], [1])))
              (.block 0
                (.loop
                  (.seq
                    (.reg law09_ClockFair_r6 (some ([1, 5, 6, 28, 29, 30, 31], [1])))
                    (.seq
                      (.cond (.t 31)
                        .skip
                        (.exit 0))
                      (.seq
                        (.block 1
                          (.seq
                            (.reg law09_ClockFair_r7 (some ([1, 5, 6, 8, 28, 29, 30], [1, 8])))
                            (.seq
                              (.reg law09_ClockFair_r8 (some ([1, 5, 6, 8, 28, 29, 30, 36], [1, 8])))
                              (.cond (.t 36)
                                (.seq
                                  (.reg law09_ClockFair_r9 (some ([1, 5, 6, 8, 28, 29, 30], [1, 8])))
                                  (.seq
                                    (.reg law09_ClockFair_r10 (some ([1, 5, 6, 28, 29, 30, 41], [1])))
                                    (.cond (.t 41)
                                      (.reg law09_ClockFair_r11 (some ([1, 5, 6, 28, 29, 30], [1])))
                                      .skip)))
                                .skip))))
                        (.reg law09_ClockFair_r12 (some ([1, 5, 6, 28, 29, 30], [1])))))))))
            (.seq
              (.reg (law09_ClockFair_r13 F) (some ([1, 5, 6, 9, 10, 11], [1, 9])))
              (.seq
                (.seq
                  (.reg law09_ClockFair_r14 (some ([1, 6, 9, 10, 11, 63], [1, 9])))
                  (.cond (.t 63)
                    (.seq
                      (.reg law09_ClockFair_r15 (some ([2], [])))
                      .ret)
                    .skip))
                (.seq
                  (.seq
                    (.reg law09_ClockFair_r16 (some ([1, 6, 9, 10, 65], [1, 9])))
                    (.cond (.t 65)
                      (.seq
                        (.reg (law09_ClockFair_r17 F) (some ([2], [])))
                        .ret)
                      .skip))
                  (.seq
                    (.seq
                      (.reg law09_ClockFair_r18 (some ([1, 9, 104], [1, 9])))
                      (.cond (.t 104)
                        (.seq
                          (.reg law09_ClockFair_r19 (some ([2], [])))
                          .ret)
                        .skip))
                    (.seq
                      (.seq
                        (.reg law09_ClockFair_r20 (some ([9, 106, 107, 108], [9])))
                        (.block 2
                          (.loop
                            (.seq
                              (.reg law09_ClockFair_r21 (some ([9, 106, 107, 108, 109], [9])))
                              (.seq
                                (.cond (.t 109)
                                  .skip
                                  (.exit 2))
                                (.seq
                                  (.block 3
                                    (.seq
                                      (.reg law09_ClockFair_r22 (some ([9, 12, 13, 106, 107, 108], [9, 13])))
                                      (.seq
                                        (.regD law09_ClockFair_r23 [] (some ([9, 106, 107, 108, 159], [9])))
                                        (.cond (.t 159)
                                          (.seq
                                            (.reg law09_ClockFair_r24 (some ([2], [])))
                                            .ret)
                                          .skip))))
                                  (.reg law09_ClockFair_r25 (some ([9, 106, 107, 108], [9])))))))))
                      (.seq
                        (.reg (law09_ClockFair_r26 F) (some ([2], [])))
                        .ret)))))))))))
def law09_ClockFair_k (P : Program) (F : Nat → Nat) : Prop := chkFn P (F 9) 1 (law09_ClockFair_c F) [2] = true

/- lockkeeper/lockkeeperlaw09.ClockRound : names 0 used, 1 hand, 2 used, 3 hand, 5 c, 6 i, 7 u, 8 last, 9 n, 10 d, 11 at, 12 ok uns [] -/
/- law.go:92 -/
def law09_ClockRound_r0 : List AOper := [
  ⟨some 4, .val (.mov (.k (.bool false))), none⟩]
/- law.go:93 -/
def law09_ClockRound_r1 : List AOper := [
  ⟨some 13, .val (.mov (.t 0)), none⟩,
  ⟨some 14, .val (.lenS (.t 13)), none⟩,
  ⟨some 15, .val (.bin .eql false (.t 14) (.k (.int .i64 0))), none⟩,
  ⟨some 16, .val (.mov (.t 15)), none⟩,
  ⟨some 17, .val (.mov (.t 0)), some (16, false)⟩,
  ⟨some 18, .val (.lenS (.t 17)), some (16, false)⟩,
  ⟨some 19, .val (.bin .gtr false (.t 18) (.k (.int .i64 8))), some (16, false)⟩,
  ⟨some 20, .val (.por (.t 16) (.t 19)), none⟩]
/- law.go:94 -/
def law09_ClockRound_r2 (F : Nat → Nat) : List AOper := [
  ⟨some 21, .call (F 1) [], none⟩,
  ⟨some 4, .val (.mov (.t 21)), none⟩]
/- law.go:96 -/
def law09_ClockRound_r3 : List AOper := [
  ⟨some 22, .val (.mov (.t 1)), none⟩,
  ⟨some 23, .val (.conv true .i64 (.t 22)), none⟩,
  ⟨some 24, .val (.mov (.t 0)), none⟩,
  ⟨some 25, .val (.lenS (.t 24)), none⟩,
  ⟨some 26, .val (.bin .rem true (.t 23) (.t 25)), none⟩,
  ⟨some 27, .val (.build 2 [.nil 3, .int .i64 0] [(1, 1, (.t 26))]), none⟩,
  ⟨some 5, .alloc 2 [.nil 3, .int .i64 0], none⟩,
  ⟨none, .stA true 2 (.t 5) (.t 27), none⟩]
/- law.go:97 -/
def law09_ClockRound_r4 : List AOper := [
  ⟨some 28, .val (.mov (.t 0)), none⟩,
  ⟨some 29, .val (.lenS (.t 28)), none⟩,
  ⟨some 30, .val (.mov (.k (.int .i64 0))), none⟩]
/- law.go:97 -/
def law09_ClockRound_r5 : List AOper := [
  ⟨some 31, .val (.bin .lss false (.t 30) (.t 29)), none⟩]
/- law.go:97 -/
def law09_ClockRound_r6 : List AOper := [
  ⟨some 32, .val (.mov (.t 30)), none⟩,
  ⟨some 33, .val (.ixS 1 (.t 28) (.t 30)), none⟩,
  ⟨some 34, .val (.load1 (.t 33)), none⟩,
  ⟨some 6, .val (.mov (.t 32)), none⟩,
  ⟨some 7, .val (.mov (.t 34)), none⟩]
/- law.go:98 -/
def law09_ClockRound_r7 : List AOper := [
  ⟨some 35, .val (.field 0 (.t 5)), none⟩,
  ⟨some 36, .val (.load1 (.t 35)), none⟩,
  ⟨some 37, .val (.mov (.t 6)), none⟩,
  ⟨some 38, .val (.bin .add true (.k (.int .i64 1)) (.t 37)), none⟩,
  ⟨some 39, .val (.mov (.t 7)), none⟩,
  ⟨some 40, .val (.build 3 [.int .i64 0, .int .i64 0, .bool false] [(0, 1, (.t 38)), (2, 1, (.t 39))]), none⟩,
  ⟨some 41, .buildS 3 1 [.int .i64 0, .int .i64 0, .bool false] [(0, (.t 40))], none⟩,
  ⟨some 42, .app 3 24 (.t 36) (.t 41), none⟩,
  ⟨some 43, .val (.field 0 (.t 5)), none⟩,
  ⟨none, .st1 true (.t 43) (.t 42), none⟩]
/- law.go:97 -/
def law09_ClockRound_r8 : List AOper := [
  ⟨some 44, .val (.bin .add true (.t 30) (.k (.int .i64 1))), none⟩,
  ⟨some 30, .val (.mov (.t 44)), none⟩]
/- law.go:100 -/
def law09_ClockRound_r9 : List AOper := [
  ⟨some 8, .val (.mov (.k (.int .i64 (-1)))), none⟩]
/- law.go:101 -/
def law09_ClockRound_r10 : List AOper := [
  ⟨some 45, .val (.mov (.t 0)), none⟩,
  ⟨some 46, .val (.lenS (.t 45)), none⟩,
  ⟨some 47, .val (.bin .mul true (.k (.int .i64 2)) (.t 46)), none⟩,
  ⟨some 48, .val (.mov (.k (.int .i64 0))), none⟩]
/- law.go:101 -/
def law09_ClockRound_r11 : List AOper := [
  ⟨some 49, .val (.bin .lss false (.t 48) (.t 47)), none⟩]
/- law.go:101 -/
def law09_ClockRound_r12 : List AOper := [
  ⟨some 50, .val (.mov (.t 48)), none⟩,
  ⟨some 9, .val (.mov (.t 50)), none⟩]
/- law.go:102 -/
def law09_ClockRound_r13 (F : Nat → Nat) : List AOper := [
  ⟨some 52, .val (.loadA 2 (.t 5)), none⟩,
  ⟨some 53, .call (F 2) [(.t 52)], none⟩,
  ⟨some 51, .val (.mov (.t 53)), none⟩,
  ⟨some 54, .val (.extr 0 (.t 51)), none⟩,
  ⟨some 55, .val (.extr 1 (.t 51)), none⟩,
  ⟨some 56, .val (.extr 2 (.t 51)), none⟩,
  ⟨some 10, .alloc 2 [.nil 3, .int .i64 0], none⟩,
  ⟨none, .stA true 2 (.t 10) (.t 54), none⟩,
  ⟨some 11, .val (.mov (.t 55)), none⟩,
  ⟨some 12, .val (.mov (.t 56)), none⟩]
/- law.go:103 -/
def law09_ClockRound_r14 : List AOper := [
  ⟨some 57, .val (.mov (.t 12)), none⟩,
  ⟨some 58, .val (.not (.t 57)), none⟩,
  ⟨some 59, .val (.mov (.t 58)), none⟩,
  ⟨some 60, .val (.mov (.t 11)), some (59, false)⟩,
  ⟨some 61, .val (.bin .lss false (.t 60) (.k (.int .i64 0))), some (59, false)⟩,
  ⟨some 62, .val (.por (.t 59) (.t 61)), none⟩,
  ⟨some 63, .val (.mov (.t 62)), none⟩,
  ⟨some 64, .val (.mov (.t 11)), some (63, false)⟩,
  ⟨some 65, .val (.mov (.t 0)), some (63, false)⟩,
  ⟨some 66, .val (.lenS (.t 65)), some (63, false)⟩,
  ⟨some 67, .val (.bin .geq false (.t 64) (.t 66)), some (63, false)⟩,
  ⟨some 68, .val (.por (.t 63) (.t 67)), none⟩,
  ⟨some 69, .val (.mov (.t 68)), none⟩,
  ⟨some 70, .val (.mov (.t 9)), some (69, false)⟩,
  ⟨some 71, .val (.mov (.t 0)), some (69, false)⟩,
  ⟨some 72, .val (.lenS (.t 71)), some (69, false)⟩,
  ⟨some 73, .val (.bin .gtr false (.t 70) (.t 72)), some (69, false)⟩,
  ⟨some 74, .val (.mov (.t 73)), some (69, false)⟩,
  ⟨some 75, .val (.mov (.t 11)), some (74, true)⟩,
  ⟨some 76, .val (.mov (.t 8)), some (74, true)⟩,
  ⟨some 77, .val (.bin .add true (.t 76) (.k (.int .i64 1))), some (74, true)⟩,
  ⟨some 78, .val (.mov (.t 0)), some (74, true)⟩,
  ⟨some 79, .val (.lenS (.t 78)), some (74, true)⟩,
  ⟨some 80, .val (.bin .rem true (.t 77) (.t 79)), some (74, true)⟩,
  ⟨some 81, .val (.bin .neq false (.t 75) (.t 80)), some (74, true)⟩,
  ⟨some 82, .val (.pand (.t 74) (.t 81)), some (69, false)⟩,
  ⟨some 83, .val (.por (.t 69) (.t 82)), none⟩]
/- law.go:104 -/
def law09_ClockRound_r15 : List AOper := [
  ⟨some 4, .val (.mov (.k (.bool false))), none⟩]
/- law.go:106 -/
def law09_ClockRound_r16 : List AOper := [
  ⟨some 84, .val (.loadA 2 (.t 10)), none⟩,
  ⟨some 85, .val (.mov (.t 11)), none⟩,
  ⟨none, .stA true 2 (.t 5) (.t 84), none⟩,
  ⟨some 8, .val (.mov (.t 85)), none⟩]
/- law.go:101 -/
def law09_ClockRound_r17 : List AOper := [
  ⟨some 86, .val (.bin .add true (.t 48) (.k (.int .i64 1))), none⟩,
  ⟨some 48, .val (.mov (.t 86)), none⟩]
/- law.go:108 -/
def law09_ClockRound_r18 (F : Nat → Nat) : List AOper := [
  ⟨some 87, .call (F 1) [], none⟩,
  ⟨some 4, .val (.mov (.t 87)), none⟩]
def law09_ClockRound_c (F : Nat → Nat) : ACode :=
  (.seq
    (.reg law09_ClockRound_r0 (some ([0, 1], [41, 42])))
    (.seq
      (.seq
        (.reg law09_ClockRound_r1 (some ([0, 1, 20], [41, 42])))
        (.cond (.t 20)
          (.seq
            (.reg (law09_ClockRound_r2 F) (some ([4], [41, 42])))
            .ret)
          .skip))
      (.seq
        (.reg law09_ClockRound_r3 (some ([0, 5], [5, 41, 42])))
        (.seq
          (.seq
            (.reg law09_ClockRound_r4 (some ([0, 5, 28, 29, 30], [5, 41, 42])))
            (.block 0
              (.loop
                (.seq
                  (.reg law09_ClockRound_r5 (some ([0, 5, 28, 29, 30, 31], [5, 41, 42])))
                  (.seq
                    (.cond (.t 31)
                      .skip
                      (.exit 0))
                    (.seq
                      (.block 1
                        (.seq
                          (.reg law09_ClockRound_r6 (some ([0, 5, 6, 7, 28, 29, 30], [5, 41, 42])))
                          (.reg law09_ClockRound_r7 (some ([0, 5, 28, 29, 30], [5, 41, 42])))))
                      (.reg law09_ClockRound_r8 (some ([0, 5, 28, 29, 30], [5, 41, 42])))))))))
          (.seq
            (.reg law09_ClockRound_r9 (some ([0, 5, 8], [5, 41, 42])))
            (.seq
              (.seq
                (.reg law09_ClockRound_r10 (some ([0, 5, 8, 47, 48], [5, 41, 42])))
                (.block 2
                  (.loop
                    (.seq
                      (.reg law09_ClockRound_r11 (some ([0, 5, 8, 47, 48, 49], [5, 41, 42])))
                      (.seq
                        (.cond (.t 49)
                          .skip
                          (.exit 2))
                        (.seq
                          (.block 3
                            (.seq
                              (.reg law09_ClockRound_r12 (some ([0, 5, 8, 9, 47, 48], [5, 41, 42])))
                              (.seq
                                (.reg (law09_ClockRound_r13 F) (some ([0, 5, 8, 9, 10, 11, 12, 47, 48], [5, 10, 41, 42])))
                                (.seq
                                  (.seq
                                    (.reg law09_ClockRound_r14 (some ([0, 5, 10, 11, 47, 48, 83], [5, 10, 41, 42])))
                                    (.cond (.t 83)
                                      (.seq
                                        (.reg law09_ClockRound_r15 (some ([4], [41, 42])))
                                        .ret)
                                      .skip))
                                  (.reg law09_ClockRound_r16 (some ([0, 5, 8, 47, 48], [5, 41, 42])))))))
                          (.reg law09_ClockRound_r17 (some ([0, 5, 8, 47, 48], [5, 41, 42])))))))))
              (.seq
                (.reg (law09_ClockRound_r18 F) (some ([4], [41, 42])))
                .ret)))))))
def law09_ClockRound_k (P : Program) (F : Nat → Nat) : Prop := chkFn P (F 10) 2 (law09_ClockRound_c F) [4] = true

/- lockkeeper/lockkeeperlaw09.ClockTouch : names 0 many, 1 at, 2 hand, 3 many, 4 at, 5 hand, 7 n, 8 k, 9 c, 10 gone, 11 d, 12 out, 13 ok, 14 _, 15 out, 16 ok uns [] -/
/- law.go:112 -/
def law09_ClockTouch_r0 : List AOper := [
  ⟨some 6, .val (.mov (.k (.bool false))), none⟩]
/- law.go:113 -/
def law09_ClockTouch_r1 : List AOper := [
  ⟨some 17, .val (.mov (.t 0)), none⟩,
  ⟨some 18, .val (.bin .rem true (.t 17) (.k (.int .u8 7))), none⟩,
  ⟨some 19, .val (.conv true .i64 (.t 18)), none⟩,
  ⟨some 20, .val (.bin .add true (.k (.int .i64 2)) (.t 19)), none⟩,
  ⟨some 7, .val (.mov (.t 20)), none⟩]
/- law.go:114 -/
def law09_ClockTouch_r2 : List AOper := [
  ⟨some 21, .val (.mov (.t 1)), none⟩,
  ⟨some 22, .val (.conv true .i64 (.t 21)), none⟩,
  ⟨some 23, .val (.mov (.t 7)), none⟩,
  ⟨some 24, .val (.bin .rem true (.t 22) (.t 23)), none⟩,
  ⟨some 8, .val (.mov (.t 24)), none⟩]
/- law.go:115 DRAWS -/
def law09_ClockTouch_r3 : List AOper := [
  ⟨some 25, .val (.mov (.t 7)), none⟩,
  ⟨some 26, .mk 3 24 [.int .i64 0, .int .i64 0, .bool false] (.t 25), none⟩,
  ⟨some 27, .val (.mov (.t 2)), none⟩,
  ⟨some 28, .val (.conv true .i64 (.t 27)), none⟩,
  ⟨some 29, .val (.mov (.t 7)), none⟩,
  ⟨some 30, .val (.bin .rem true (.t 28) (.t 29)), none⟩,
  ⟨some 31, .val (.build 2 [.nil 3, .int .i64 0] [(0, 1, (.t 26)), (1, 1, (.t 30))]), none⟩,
  ⟨some 9, .alloc 2 [.nil 3, .int .i64 0], none⟩,
  ⟨none, .stA true 2 (.t 9) (.t 31), none⟩]
/- law.go:116 -/
def law09_ClockTouch_r4 : List AOper := [
  ⟨some 10, .allocR 8 1 [.bool false], none⟩]
/- law.go:117 -/
def law09_ClockTouch_r5 : List AOper := [
  ⟨some 32, .val (.mov (.t 7)), none⟩,
  ⟨some 33, .val (.bin .sub true (.t 32) (.k (.int .i64 1))), none⟩,
  ⟨some 34, .val (.mov (.k (.int .i64 0))), none⟩]
/- law.go:117 -/
def law09_ClockTouch_r6 : List AOper := [
  ⟨some 35, .val (.bin .lss false (.t 34) (.t 33)), none⟩]
/- law.go:118 -/
def law09_ClockTouch_r7 (F : Nat → Nat) : List AOper := [
  ⟨some 37, .val (.loadA 2 (.t 9)), none⟩,
  ⟨some 38, .val (.mov (.t 8)), none⟩,
  ⟨some 39, .call (F 3) [(.t 37), (.t 38)], none⟩,
  ⟨some 40, .call (F 2) [(.t 39)], none⟩,
  ⟨some 36, .val (.mov (.t 40)), none⟩,
  ⟨some 41, .val (.extr 0 (.t 36)), none⟩,
  ⟨some 42, .val (.extr 1 (.t 36)), none⟩,
  ⟨some 43, .val (.extr 2 (.t 36)), none⟩,
  ⟨some 11, .alloc 2 [.nil 3, .int .i64 0], none⟩,
  ⟨none, .stA true 2 (.t 11) (.t 41), none⟩,
  ⟨some 12, .val (.mov (.t 42)), none⟩,
  ⟨some 13, .val (.mov (.t 43)), none⟩]
/- law.go:119 -/
def law09_ClockTouch_r8 : List AOper := [
  ⟨some 44, .val (.mov (.t 13)), none⟩,
  ⟨some 45, .val (.not (.t 44)), none⟩,
  ⟨some 46, .val (.mov (.t 45)), none⟩,
  ⟨some 47, .val (.mov (.t 12)), some (46, false)⟩,
  ⟨some 48, .val (.bin .lss false (.t 47) (.k (.int .i64 0))), some (46, false)⟩,
  ⟨some 49, .val (.por (.t 46) (.t 48)), none⟩,
  ⟨some 50, .val (.mov (.t 49)), none⟩,
  ⟨some 51, .val (.mov (.t 12)), some (50, false)⟩,
  ⟨some 52, .val (.mov (.t 7)), some (50, false)⟩,
  ⟨some 53, .val (.bin .geq false (.t 51) (.t 52)), some (50, false)⟩,
  ⟨some 54, .val (.por (.t 50) (.t 53)), none⟩,
  ⟨some 55, .val (.mov (.t 54)), none⟩,
  ⟨some 56, .val (.mov (.t 12)), some (55, false)⟩,
  ⟨some 57, .val (.mov (.t 8)), some (55, false)⟩,
  ⟨some 58, .val (.bin .eql false (.t 56) (.t 57)), some (55, false)⟩,
  ⟨some 59, .val (.por (.t 55) (.t 58)), none⟩,
  ⟨some 60, .val (.mov (.t 59)), none⟩,
  ⟨some 61, .val (.mov (.t 12)), some (60, false)⟩,
  ⟨some 62, .val (.ixA 1 8 (.t 10) (.t 61)), some (60, false)⟩,
  ⟨some 63, .val (.load1 (.t 62)), some (60, false)⟩,
  ⟨some 64, .val (.por (.t 60) (.t 63)), none⟩,
  ⟨some 65, .val (.mov (.t 64)), none⟩,
  ⟨some 66, .val (.field 0 (.t 11)), some (65, false)⟩,
  ⟨some 67, .val (.load1 (.t 66)), some (65, false)⟩,
  ⟨some 68, .val (.lenS (.t 67)), some (65, false)⟩,
  ⟨some 69, .val (.mov (.t 7)), some (65, false)⟩,
  ⟨some 70, .val (.bin .neq false (.t 68) (.t 69)), some (65, false)⟩,
  ⟨some 71, .val (.por (.t 65) (.t 70)), none⟩]
/- law.go:120 -/
def law09_ClockTouch_r9 : List AOper := [
  ⟨some 6, .val (.mov (.k (.bool false))), none⟩]
/- law.go:122 -/
def law09_ClockTouch_r10 : List AOper := [
  ⟨some 72, .val (.mov (.t 12)), none⟩,
  ⟨some 73, .val (.ixA 1 8 (.t 10) (.t 72)), none⟩,
  ⟨none, .st1 true (.t 73) (.k (.bool true)), none⟩]
/- law.go:123 DRAWS -/
def law09_ClockTouch_r11 : List AOper := [
  ⟨some 74, .buildS 3 0 [.int .i64 0, .int .i64 0, .bool false] [], none⟩,
  ⟨some 75, .val (.field 0 (.t 11)), none⟩,
  ⟨some 76, .val (.load1 (.t 75)), none⟩,
  ⟨some 77, .app 3 24 (.t 74) (.t 76), none⟩,
  ⟨some 78, .val (.field 1 (.t 11)), none⟩,
  ⟨some 79, .val (.load1 (.t 78)), none⟩,
  ⟨some 80, .val (.build 2 [.nil 3, .int .i64 0] [(0, 1, (.t 77)), (1, 1, (.t 79))]), none⟩,
  ⟨none, .stA true 2 (.t 9) (.t 80), none⟩]
/- law.go:124 -/
def law09_ClockTouch_r12 : List AOper := [
  ⟨some 81, .val (.field 0 (.t 9)), none⟩,
  ⟨some 82, .val (.load1 (.t 81)), none⟩,
  ⟨some 83, .val (.mov (.t 12)), none⟩,
  ⟨some 84, .val (.ixS 3 (.t 82) (.t 83)), none⟩,
  ⟨some 85, .val (.field 1 (.t 84)), none⟩,
  ⟨none, .st1 false (.t 85) (.k (.int .i64 1)), none⟩]
/- law.go:117 -/
def law09_ClockTouch_r13 : List AOper := [
  ⟨some 86, .val (.bin .add true (.t 34) (.k (.int .i64 1))), none⟩,
  ⟨some 34, .val (.mov (.t 86)), none⟩]
/- law.go:126 -/
def law09_ClockTouch_r14 (F : Nat → Nat) : List AOper := [
  ⟨some 88, .val (.loadA 2 (.t 9)), none⟩,
  ⟨some 89, .val (.mov (.t 8)), none⟩,
  ⟨some 90, .call (F 3) [(.t 88), (.t 89)], none⟩,
  ⟨some 91, .call (F 2) [(.t 90)], none⟩,
  ⟨some 87, .val (.mov (.t 91)), none⟩,
  ⟨some 92, .val (.extr 0 (.t 87)), none⟩,
  ⟨some 93, .val (.extr 1 (.t 87)), none⟩,
  ⟨some 94, .val (.extr 2 (.t 87)), none⟩,
  ⟨some 14, .alloc 2 [.nil 3, .int .i64 0], none⟩,
  ⟨none, .stA true 2 (.t 14) (.t 92), none⟩,
  ⟨some 15, .val (.mov (.t 93)), none⟩,
  ⟨some 16, .val (.mov (.t 94)), none⟩]
/- law.go:127 -/
def law09_ClockTouch_r15 (F : Nat → Nat) : List AOper := [
  ⟨some 95, .val (.mov (.t 16)), none⟩,
  ⟨some 96, .val (.mov (.t 95)), none⟩,
  ⟨some 97, .val (.mov (.t 15)), some (96, true)⟩,
  ⟨some 98, .val (.mov (.t 8)), some (96, true)⟩,
  ⟨some 99, .val (.bin .eql false (.t 97) (.t 98)), some (96, true)⟩,
  ⟨some 100, .val (.pand (.t 96) (.t 99)), none⟩,
  ⟨some 101, .val (.mov (.t 100)), none⟩,
  ⟨some 102, .call (F 1) [], some (101, true)⟩,
  ⟨some 103, .val (.pand (.t 101) (.t 102)), none⟩,
  ⟨some 6, .val (.mov (.t 103)), none⟩]
def law09_ClockTouch_c (F : Nat → Nat) : ACode :=
  (.seq
    (.reg law09_ClockTouch_r0 (some ([0, 1, 2], [26, 74, 77])))
    (.seq
      (.reg law09_ClockTouch_r1 (some ([1, 2, 7], [26, 74, 77])))
      (.seq
        (.reg law09_ClockTouch_r2 (some ([2, 7, 8], [26, 74, 77])))
        (.seq
          (.regD law09_ClockTouch_r3 [(1, 2), (1, 3), (1, 4), (1, 5), (0, 7), (1, 7), (2, 7), (3, 7), (4, 7), (5, 7), (6, 7)] (some ([7, 8, 9], [9, 26, 74, 77])))
          (.seq
            (.reg law09_ClockTouch_r4 (some ([7, 8, 9, 10], [9, 10, 26, 74, 77])))
            (.seq
              (.seq
                (.reg law09_ClockTouch_r5 (some ([7, 8, 9, 10, 33, 34], [9, 10, 26, 74, 77])))
                (.block 0
                  (.loop
                    (.seq
                      (.reg law09_ClockTouch_r6 (some ([7, 8, 9, 10, 33, 34, 35], [9, 10, 26, 74, 77])))
                      (.seq
                        (.cond (.t 35)
                          .skip
                          (.exit 0))
                        (.seq
                          (.block 1
                            (.seq
                              (.reg (law09_ClockTouch_r7 F) (some ([7, 8, 9, 10, 11, 12, 13, 33, 34], [9, 10, 11, 26, 74, 77])))
                              (.seq
                                (.seq
                                  (.reg law09_ClockTouch_r8 (some ([7, 8, 9, 10, 11, 12, 33, 34, 71], [9, 10, 11, 26, 74, 77])))
                                  (.cond (.t 71)
                                    (.seq
                                      (.reg law09_ClockTouch_r9 (some ([6], [26, 74, 77])))
                                      .ret)
                                    .skip))
                                (.seq
                                  (.reg law09_ClockTouch_r10 (some ([7, 8, 9, 10, 11, 12, 33, 34], [9, 10, 11, 26, 74, 77])))
                                  (.seq
                                    (.regD law09_ClockTouch_r11 [(0, 1), (0, 2), (0, 4), (3, 4), (0, 5), (3, 5)] (some ([7, 8, 9, 10, 12, 33, 34], [9, 10, 26, 74, 77])))
                                    (.reg law09_ClockTouch_r12 (some ([7, 8, 9, 10, 33, 34], [9, 10, 26, 74, 77]))))))))
                          (.reg law09_ClockTouch_r13 (some ([7, 8, 9, 10, 33, 34], [9, 10, 26, 74, 77])))))))))
              (.seq
                (.reg (law09_ClockTouch_r14 F) (some ([8, 15, 16], [26, 74, 77])))
                (.seq
                  (.reg (law09_ClockTouch_r15 F) (some ([6], [26, 74, 77])))
                  .ret))))))))
def law09_ClockTouch_k (P : Program) (F : Nat → Nat) : Prop := chkFn P (F 11) 3 (law09_ClockTouch_c F) [6] = true

/- lockkeeper/lockkeeperlaw09.ClockHand : names 0 c, 1 c, 3 x, 4 ok, 5 d, 6 at, 7 is, 8 n, 9 k uns [] -/
/- law.go:131 -/
def law09_ClockHand_r0 : List AOper := [
  ⟨some 1, .box 2 (.t 0), none⟩,
  ⟨some 2, .val (.mov (.k (.bool false))), none⟩]
/- law.go:132 -/
def law09_ClockHand_r1 (F : Nat → Nat) : List AOper := [
  ⟨some 11, .val (.loadA 2 (.t 1)), none⟩,
  ⟨some 12, .call (F 0) [(.t 11)], none⟩,
  ⟨some 10, .val (.mov (.t 12)), none⟩,
  ⟨some 13, .val (.extr 0 (.t 10)), none⟩,
  ⟨some 14, .val (.extr 1 (.t 10)), none⟩,
  ⟨some 3, .alloc 2 [.nil 3, .int .i64 0], none⟩,
  ⟨none, .stA true 2 (.t 3) (.t 13), none⟩,
  ⟨some 4, .val (.mov (.t 14)), none⟩]
/- law.go:133 -/
def law09_ClockHand_r2 (F : Nat → Nat) : List AOper := [
  ⟨some 15, .val (.mov (.t 4)), none⟩,
  ⟨some 16, .val (.not (.t 15)), none⟩,
  ⟨some 17, .val (.mov (.t 16)), none⟩,
  ⟨some 18, .val (.loadA 2 (.t 3)), some (17, false)⟩,
  ⟨some 19, .call (F 4) [(.t 18)], some (17, false)⟩,
  ⟨some 20, .val (.not (.t 19)), some (17, false)⟩,
  ⟨some 21, .val (.por (.t 17) (.t 20)), none⟩]
/- law.go:134 -/
def law09_ClockHand_r3 (F : Nat → Nat) : List AOper := [
  ⟨some 22, .call (F 1) [], none⟩,
  ⟨some 2, .val (.mov (.t 22)), none⟩]
/- law.go:136 -/
def law09_ClockHand_r4 (F : Nat → Nat) : List AOper := [
  ⟨some 24, .val (.loadA 2 (.t 1)), none⟩,
  ⟨some 25, .call (F 2) [(.t 24)], none⟩,
  ⟨some 23, .val (.mov (.t 25)), none⟩,
  ⟨some 26, .val (.extr 0 (.t 23)), none⟩,
  ⟨some 27, .val (.extr 1 (.t 23)), none⟩,
  ⟨some 28, .val (.extr 2 (.t 23)), none⟩,
  ⟨some 5, .alloc 2 [.nil 3, .int .i64 0], none⟩,
  ⟨none, .stA true 2 (.t 5) (.t 26), none⟩,
  ⟨some 6, .val (.mov (.t 27)), none⟩,
  ⟨some 7, .val (.mov (.t 28)), none⟩]
/- law.go:137 -/
def law09_ClockHand_r5 : List AOper := [
  ⟨some 29, .val (.field 0 (.t 1)), none⟩,
  ⟨some 30, .val (.load1 (.t 29)), none⟩,
  ⟨some 31, .val (.lenS (.t 30)), none⟩,
  ⟨some 8, .val (.mov (.t 31)), none⟩]
/- law.go:138 -/
def law09_ClockHand_r6 : List AOper := [
  ⟨some 32, .val (.mov (.t 7)), none⟩,
  ⟨some 33, .val (.not (.t 32)), none⟩]
/- law.go:139 -/
def law09_ClockHand_r7 (F : Nat → Nat) : List AOper := [
  ⟨some 34, .val (.mov (.t 6)), none⟩,
  ⟨some 35, .val (.bin .eql false (.t 34) (.k (.int .i64 0))), none⟩,
  ⟨some 36, .val (.mov (.t 35)), none⟩,
  ⟨some 37, .val (.field 1 (.t 5)), some (36, true)⟩,
  ⟨some 38, .val (.load1 (.t 37)), some (36, true)⟩,
  ⟨some 39, .val (.field 1 (.t 1)), some (36, true)⟩,
  ⟨some 40, .val (.load1 (.t 39)), some (36, true)⟩,
  ⟨some 41, .val (.bin .eql false (.t 38) (.t 40)), some (36, true)⟩,
  ⟨some 42, .val (.pand (.t 36) (.t 41)), none⟩,
  ⟨some 43, .val (.mov (.t 42)), none⟩,
  ⟨some 44, .call (F 1) [], some (43, true)⟩,
  ⟨some 45, .val (.pand (.t 43) (.t 44)), none⟩,
  ⟨some 2, .val (.mov (.t 45)), none⟩]
/- law.go:141 DRAWS -/
def law09_ClockHand_r8 : List AOper := [
  ⟨some 46, .val (.mov (.t 6)), none⟩,
  ⟨some 47, .val (.bin .lss false (.t 46) (.k (.int .i64 0))), none⟩,
  ⟨some 48, .val (.mov (.t 47)), none⟩,
  ⟨some 49, .val (.mov (.t 6)), some (48, false)⟩,
  ⟨some 50, .val (.mov (.t 8)), some (48, false)⟩,
  ⟨some 51, .val (.bin .geq false (.t 49) (.t 50)), some (48, false)⟩,
  ⟨some 52, .val (.por (.t 48) (.t 51)), none⟩,
  ⟨some 53, .val (.mov (.t 52)), none⟩,
  ⟨some 54, .val (.field 1 (.t 5)), some (53, false)⟩,
  ⟨some 55, .val (.load1 (.t 54)), some (53, false)⟩,
  ⟨some 56, .val (.mov (.t 6)), some (53, false)⟩,
  ⟨some 57, .val (.bin .add true (.t 56) (.k (.int .i64 1))), some (53, false)⟩,
  ⟨some 58, .val (.mov (.t 8)), some (53, false)⟩,
  ⟨some 59, .val (.bin .rem true (.t 57) (.t 58)), some (53, false)⟩,
  ⟨some 60, .val (.bin .neq false (.t 55) (.t 59)), some (53, false)⟩,
  ⟨some 61, .val (.por (.t 53) (.t 60)), none⟩]
/- law.go:142 -/
def law09_ClockHand_r9 : List AOper := [
  ⟨some 2, .val (.mov (.k (.bool false))), none⟩]
/- law.go:144 -/
def law09_ClockHand_r10 : List AOper := [
  ⟨some 62, .val (.field 1 (.t 1)), none⟩,
  ⟨some 63, .val (.load1 (.t 62)), none⟩,
  ⟨some 9, .val (.mov (.t 63)), none⟩]
/- law.go:144 -/
def law09_ClockHand_r11 : List AOper := [
  ⟨some 64, .val (.mov (.t 9)), none⟩,
  ⟨some 65, .val (.mov (.t 6)), none⟩,
  ⟨some 66, .val (.bin .neq false (.t 64) (.t 65)), none⟩]
/- law.go:145 -/
def law09_ClockHand_r13 : List AOper := [
  ⟨some 71, .val (.field 0 (.t 1)), none⟩,
  ⟨some 72, .val (.load1 (.t 71)), none⟩,
  ⟨some 73, .val (.mov (.t 9)), none⟩,
  ⟨some 74, .val (.ixS 3 (.t 72) (.t 73)), none⟩,
  ⟨some 75, .val (.field 1 (.t 74)), none⟩,
  ⟨some 76, .val (.load1 (.t 75)), none⟩,
  ⟨some 77, .val (.bin .eql false (.t 76) (.k (.int .i64 0))), none⟩,
  ⟨some 78, .val (.mov (.t 77)), none⟩,
  ⟨some 79, .val (.field 0 (.t 1)), some (78, true)⟩,
  ⟨some 80, .val (.load1 (.t 79)), some (78, true)⟩,
  ⟨some 81, .val (.mov (.t 9)), some (78, true)⟩,
  ⟨some 82, .val (.ixS 3 (.t 80) (.t 81)), some (78, true)⟩,
  ⟨some 83, .val (.field 2 (.t 82)), some (78, true)⟩,
  ⟨some 84, .val (.load1 (.t 83)), some (78, true)⟩,
  ⟨some 85, .val (.not (.t 84)), some (78, true)⟩,
  ⟨some 86, .val (.pand (.t 78) (.t 85)), none⟩]
/- law.go:146 -/
def law09_ClockHand_r14 : List AOper := [
  ⟨some 2, .val (.mov (.k (.bool false))), none⟩]
/- law.go:144 -/
def law09_ClockHand_r12 : List AOper := [
  ⟨some 67, .val (.mov (.t 9)), none⟩,
  ⟨some 68, .val (.bin .add true (.t 67) (.k (.int .i64 1))), none⟩,
  ⟨some 69, .val (.mov (.t 8)), none⟩,
  ⟨some 70, .val (.bin .rem true (.t 68) (.t 69)), none⟩,
  ⟨some 9, .val (.mov (.t 70)), none⟩]
/- law.go:149 -/
def law09_ClockHand_r15 (F : Nat → Nat) : List AOper := [
  ⟨some 87, .call (F 1) [], none⟩,
  ⟨some 2, .val (.mov (.t 87)), none⟩]
def law09_ClockHand_c (F : Nat → Nat) : ACode :=
  (.seq
    (.reg law09_ClockHand_r0 (some ([1], [1])))
    (.seq
      (.reg (law09_ClockHand_r1 F) (some ([1, 3, 4], [1, 3])))
      (.seq
        (.seq
          (.reg (law09_ClockHand_r2 F) (some ([1, 21], [1])))
          (.cond (.t 21)
            (.seq
              (.reg (law09_ClockHand_r3 F) (some ([2], [])))
              .ret)
            .skip))
        (.seq
          (.reg (law09_ClockHand_r4 F) (some ([1, 5, 6, 7], [1, 5])))
          (.seq
            (.reg law09_ClockHand_r5 (some ([1, 5, 6, 7, 8], [1, 5])))
            (.seq
              (.seq
                (.reg law09_ClockHand_r6 (some ([1, 5, 6, 8, 33], [1, 5])))
                (.cond (.t 33)
                  (.seq
                    (.reg (law09_ClockHand_r7 F) (some ([2], [])))
                    .ret)
                  .skip))
              (.seq
                (.seq
                  (.regD law09_ClockHand_r8 [] (some ([1, 6, 8, 61], [1])))
                  (.cond (.t 61)
                    (.seq
                      (.reg law09_ClockHand_r9 (some ([2], [])))
                      .ret)
                    .skip))
                (.seq
                  (.seq
                    (.reg law09_ClockHand_r10 (some ([1, 6, 8, 9], [1])))
                    (.block 0
                      (.loop
                        (.seq
                          (.seq
                            (.reg law09_ClockHand_r11 (some ([1, 6, 8, 9, 66], [1])))
                            (.cond (.t 66)
                              .skip
                              (.exit 0)))
                          (.seq
                            (.block 1
                              (.seq
                                (.reg law09_ClockHand_r13 (some ([1, 6, 8, 9, 86], [1])))
                                (.cond (.t 86)
                                  (.seq
                                    (.reg law09_ClockHand_r14 (some ([2], [])))
                                    .ret)
                                  .skip)))
                            (.reg law09_ClockHand_r12 (some ([1, 6, 8, 9], [1]))))))))
                  (.seq
                    (.reg (law09_ClockHand_r15 F) (some ([2], [])))
                    .ret)))))))))
def law09_ClockHand_k (P : Program) (F : Nat → Nat) : Prop := chkFn P (F 12) 1 (law09_ClockHand_c F) [2] = true

/- lockkeeper/lockkeeperlaw09.ref : names 0 c, 1 c, 4 out, 5 _, 6 f uns [] -/
/- law.go:18 -/
def law09_ref_r0 : List AOper := [
  ⟨some 1, .box 2 (.t 0), none⟩,
  ⟨some 2, .alloc 2 [.nil 3, .int .i64 0], none⟩,
  ⟨some 3, .val (.mov (.k (.bool false))), none⟩]
/- law.go:19 -/
def law09_ref_r1 : List AOper := [
  ⟨some 7, .val (.field 1 (.t 1)), none⟩,
  ⟨some 8, .val (.load1 (.t 7)), none⟩,
  ⟨some 9, .val (.build 2 [.nil 3, .int .i64 0] [(1, 1, (.t 8))]), none⟩,
  ⟨some 4, .alloc 2 [.nil 3, .int .i64 0], none⟩,
  ⟨none, .stA true 2 (.t 4) (.t 9), none⟩]
/- law.go:20 -/
def law09_ref_r2 : List AOper := [
  ⟨some 10, .val (.field 0 (.t 1)), none⟩,
  ⟨some 11, .val (.load1 (.t 10)), none⟩,
  ⟨some 12, .val (.lenS (.t 11)), none⟩,
  ⟨some 13, .val (.bin .gtr false (.t 12) (.k (.int .i64 40))), none⟩]
/- law.go:21 -/
def law09_ref_r3 : List AOper := [
  ⟨some 14, .val (.loadA 2 (.t 4)), none⟩,
  ⟨none, .stA true 2 (.t 2) (.t 14), none⟩,
  ⟨some 3, .val (.mov (.k (.bool false))), none⟩]
/- law.go:23 -/
def law09_ref_r4 : List AOper := [
  ⟨some 15, .val (.field 0 (.t 1)), none⟩,
  ⟨some 16, .val (.load1 (.t 15)), none⟩,
  ⟨some 17, .val (.lenS (.t 16)), none⟩,
  ⟨some 18, .val (.mov (.k (.int .i64 0))), none⟩]
/- law.go:23 -/
def law09_ref_r5 : List AOper := [
  ⟨some 19, .val (.bin .lss false (.t 18) (.t 17)), none⟩]
/- law.go:23 -/
def law09_ref_r6 : List AOper := [
  ⟨some 20, .val (.ixS 3 (.t 16) (.t 18)), none⟩,
  ⟨some 21, .val (.loadA 3 (.t 20)), none⟩,
  ⟨some 6, .alloc 3 [.int .i64 0, .int .i64 0, .bool false], none⟩,
  ⟨none, .stA true 3 (.t 6) (.t 21), none⟩]
/- law.go:24 -/
def law09_ref_r7 : List AOper := [
  ⟨some 22, .val (.field 0 (.t 4)), none⟩,
  ⟨some 23, .val (.load1 (.t 22)), none⟩,
  ⟨some 24, .val (.loadA 3 (.t 6)), none⟩,
  ⟨some 25, .buildS 3 1 [.int .i64 0, .int .i64 0, .bool false] [(0, (.t 24))], none⟩,
  ⟨some 26, .app 3 24 (.t 23) (.t 25), none⟩,
  ⟨some 27, .val (.field 0 (.t 4)), none⟩,
  ⟨none, .st1 true (.t 27) (.t 26), none⟩]
/- law.go:23 -/
def law09_ref_r8 : List AOper := [
  ⟨some 28, .val (.bin .add true (.t 18) (.k (.int .i64 1))), none⟩,
  ⟨some 18, .val (.mov (.t 28)), none⟩]
/- law.go:26 -/
def law09_ref_r9 : List AOper := [
  ⟨some 29, .val (.loadA 2 (.t 4)), none⟩,
  ⟨none, .stA true 2 (.t 2) (.t 29), none⟩,
  ⟨some 3, .val (.mov (.k (.bool true))), none⟩]
def law09_ref_c : ACode :=
  (.seq
    (.reg law09_ref_r0 (some ([1, 2], [1, 2, 25, 26])))
    (.seq
      (.reg law09_ref_r1 (some ([1, 2, 4], [1, 2, 4, 25, 26])))
      (.seq
        (.seq
          (.reg law09_ref_r2 (some ([1, 2, 4, 13], [1, 2, 4, 25, 26])))
          (.cond (.t 13)
            (.seq
              (.reg law09_ref_r3 (some ([2, 3], [2, 25, 26])))
              .ret)
            .skip))
        (.seq
          (.seq
            (.reg law09_ref_r4 (some ([2, 4, 16, 17, 18], [2, 4, 25, 26])))
            (.block 0
              (.loop
                (.seq
                  (.reg law09_ref_r5 (some ([2, 4, 16, 17, 18, 19], [2, 4, 25, 26])))
                  (.seq
                    (.cond (.t 19)
                      .skip
                      (.exit 0))
                    (.seq
                      (.block 1
                        (.seq
                          (.reg law09_ref_r6 (some ([2, 4, 6, 16, 17, 18], [2, 4, 6, 25, 26])))
                          (.reg law09_ref_r7 (some ([2, 4, 16, 17, 18], [2, 4, 25, 26])))))
                      (.reg law09_ref_r8 (some ([2, 4, 16, 17, 18], [2, 4, 25, 26])))))))))
          (.seq
            (.reg law09_ref_r9 (some ([2, 3], [2, 25, 26])))
            .ret)))))
def law09_ref_k (P : Program) (F : Nat → Nat) : Prop := chkFn P (F 0) 1 (law09_ref_c) [.loadA 2 (.t 2), 3] = true

/- lockkeeper/lockkeeperlaw09.awake : names 1 c, 2 at, 3 ok, 4 _, 5 _, 6 is, 7 d uns [] -/
/- law.go:10 -/
def law09_awake_r0 : List AOper := [
  ⟨some 0, .val (.mov (.k (.bool false))), none⟩]
/- law.go:11 -/
def law09_awake_r1 (F : Nat → Nat) : List AOper := [
  ⟨some 9, .val (.build 3 [.int .i64 0, .int .i64 0, .bool false] [(0, 1, (.k (.int .i64 1))), (2, 1, (.k (.bool true)))]), none⟩,
  ⟨some 10, .val (.build 3 [.int .i64 0, .int .i64 0, .bool false] [(0, 1, (.k (.int .i64 2)))]), none⟩,
  ⟨some 11, .val (.build 3 [.int .i64 0, .int .i64 0, .bool false] [(0, 1, (.k (.int .i64 3)))]), none⟩,
  ⟨some 12, .buildS 3 3 [.int .i64 0, .int .i64 0, .bool false] [(0, (.t 9)), (1, (.t 10)), (2, (.t 11))], none⟩,
  ⟨some 13, .val (.build 2 [.nil 3, .int .i64 0] [(0, 1, (.t 12))]), none⟩,
  ⟨some 14, .call (F 2) [(.t 13)], none⟩,
  ⟨some 8, .val (.mov (.t 14)), none⟩,
  ⟨some 15, .val (.extr 0 (.t 8)), none⟩,
  ⟨some 16, .val (.extr 1 (.t 8)), none⟩,
  ⟨some 17, .val (.extr 2 (.t 8)), none⟩,
  ⟨some 1, .alloc 2 [.nil 3, .int .i64 0], none⟩,
  ⟨none, .stA true 2 (.t 1) (.t 15), none⟩,
  ⟨some 2, .val (.mov (.t 16)), none⟩,
  ⟨some 3, .val (.mov (.t 17)), none⟩]
/- law.go:12 -/
def law09_awake_r2 (F : Nat → Nat) : List AOper := [
  ⟨some 19, .val (.build 3 [.int .i64 0, .int .i64 0, .bool false] [(1, 1, (.k (.int .i64 1)))]), none⟩,
  ⟨some 20, .buildS 3 1 [.int .i64 0, .int .i64 0, .bool false] [(0, (.t 19))], none⟩,
  ⟨some 21, .val (.build 2 [.nil 3, .int .i64 0] [(0, 1, (.t 20))]), none⟩,
  ⟨some 22, .call (F 2) [(.t 21)], none⟩,
  ⟨some 18, .val (.mov (.t 22)), none⟩,
  ⟨some 23, .val (.extr 0 (.t 18)), none⟩,
  ⟨some 24, .val (.extr 1 (.t 18)), none⟩,
  ⟨some 25, .val (.extr 2 (.t 18)), none⟩,
  ⟨some 4, .alloc 2 [.nil 3, .int .i64 0], none⟩,
  ⟨none, .stA true 2 (.t 4) (.t 23), none⟩,
  ⟨some 5, .val (.mov (.t 24)), none⟩,
  ⟨some 6, .val (.mov (.t 25)), none⟩]
/- law.go:13 -/
def law09_awake_r3 (F : Nat → Nat) : List AOper := [
  ⟨some 26, .val (.loadA 2 (.t 1)), none⟩,
  ⟨some 27, .call (F 3) [(.t 26), (.k (.int .i64 2))], none⟩,
  ⟨some 7, .alloc 2 [.nil 3, .int .i64 0], none⟩,
  ⟨none, .stA true 2 (.t 7) (.t 27), none⟩]
/- law.go:14 -/
def law09_awake_r4 : List AOper := [
  ⟨some 28, .val (.mov (.t 2)), none⟩,
  ⟨some 29, .val (.bin .eql false (.t 28) (.k (.int .i64 1))), none⟩,
  ⟨some 30, .val (.mov (.t 29)), none⟩,
  ⟨some 31, .val (.mov (.t 3)), some (30, true)⟩,
  ⟨some 32, .val (.pand (.t 30) (.t 31)), none⟩,
  ⟨some 33, .val (.mov (.t 32)), none⟩,
  ⟨some 34, .val (.field 1 (.t 1)), some (33, true)⟩,
  ⟨some 35, .val (.load1 (.t 34)), some (33, true)⟩,
  ⟨some 36, .val (.bin .eql false (.t 35) (.k (.int .i64 2))), some (33, true)⟩,
  ⟨some 37, .val (.pand (.t 33) (.t 36)), none⟩,
  ⟨some 38, .val (.mov (.t 37)), none⟩,
  ⟨some 39, .val (.field 0 (.t 1)), some (38, true)⟩,
  ⟨some 40, .val (.load1 (.t 39)), some (38, true)⟩,
  ⟨some 41, .val (.lenS (.t 40)), some (38, true)⟩,
  ⟨some 42, .val (.bin .eql false (.t 41) (.k (.int .i64 3))), some (38, true)⟩,
  ⟨some 43, .val (.pand (.t 38) (.t 42)), none⟩,
  ⟨some 44, .val (.mov (.t 43)), none⟩,
  ⟨some 45, .val (.field 0 (.t 1)), some (44, true)⟩,
  ⟨some 46, .val (.load1 (.t 45)), some (44, true)⟩,
  ⟨some 47, .val (.ixS 3 (.t 46) (.k (.int .i64 0))), some (44, true)⟩,
  ⟨some 48, .val (.field 2 (.t 47)), some (44, true)⟩,
  ⟨some 49, .val (.load1 (.t 48)), some (44, true)⟩,
  ⟨some 50, .val (.not (.t 49)), some (44, true)⟩,
  ⟨some 51, .val (.pand (.t 44) (.t 50)), none⟩,
  ⟨some 52, .val (.mov (.t 51)), none⟩,
  ⟨some 53, .val (.mov (.t 6)), some (52, true)⟩,
  ⟨some 54, .val (.not (.t 53)), some (52, true)⟩,
  ⟨some 55, .val (.pand (.t 52) (.t 54)), none⟩,
  ⟨some 56, .val (.mov (.t 55)), none⟩,
  ⟨some 57, .val (.field 0 (.t 7)), some (56, true)⟩,
  ⟨some 58, .val (.load1 (.t 57)), some (56, true)⟩,
  ⟨some 59, .val (.lenS (.t 58)), some (56, true)⟩,
  ⟨some 60, .val (.bin .eql false (.t 59) (.k (.int .i64 3))), some (56, true)⟩,
  ⟨some 61, .val (.pand (.t 56) (.t 60)), none⟩,
  ⟨some 62, .val (.mov (.t 61)), none⟩,
  ⟨some 63, .val (.field 0 (.t 7)), some (62, true)⟩,
  ⟨some 64, .val (.load1 (.t 63)), some (62, true)⟩,
  ⟨some 65, .val (.ixS 3 (.t 64) (.k (.int .i64 2))), some (62, true)⟩,
  ⟨some 66, .val (.field 2 (.t 65)), some (62, true)⟩,
  ⟨some 67, .val (.load1 (.t 66)), some (62, true)⟩,
  ⟨some 68, .val (.pand (.t 62) (.t 67)), none⟩,
  ⟨some 0, .val (.mov (.t 68)), none⟩]
def law09_awake_c (F : Nat → Nat) : ACode :=
  (.seq
    (.reg law09_awake_r0 (some ([], [12, 20])))
    (.seq
      (.reg (law09_awake_r1 F) (some ([1, 2, 3], [1, 12, 20])))
      (.seq
        (.reg (law09_awake_r2 F) (some ([1, 2, 3, 6], [1, 12, 20])))
        (.seq
          (.reg (law09_awake_r3 F) (some ([1, 2, 3, 6, 7], [1, 7, 12, 20])))
          (.seq
            (.reg law09_awake_r4 (some ([0], [12, 20])))
            .ret)))))
def law09_awake_k (P : Program) (F : Nat → Nat) : Prop := chkFn P (F 1) 0 (law09_awake_c F) [0] = true

/- lockkeeper/clock.Sweep : names 0 c, 1 c, 5 loose, 6 at uns [] -/
/- clock.go:39 -/
def clock_Sweep_r0 : List AOper := [
  ⟨some 1, .box 2 (.t 0), none⟩,
  ⟨some 2, .alloc 2 [.nil 3, .int .i64 0], none⟩,
  ⟨some 3, .val (.mov (.k (.int .i64 0))), none⟩,
  ⟨some 4, .val (.mov (.k (.bool false))), none⟩]
/- clock.go:40 -/
def clock_Sweep_r1 (F : Nat → Nat) : List AOper := [
  ⟨some 7, .val (.loadA 2 (.t 1)), none⟩,
  ⟨some 8, .call (F 5) [(.t 7)], none⟩,
  ⟨some 9, .val (.not (.t 8)), none⟩]
/- clock.go:41 -/
def clock_Sweep_r2 : List AOper := [
  ⟨some 10, .val (.loadA 2 (.t 1)), none⟩,
  ⟨none, .stA true 2 (.t 2) (.t 10), none⟩,
  ⟨some 3, .val (.mov (.k (.int .i64 0))), none⟩,
  ⟨some 4, .val (.mov (.k (.bool false))), none⟩]
/- clock.go:43 -/
def clock_Sweep_r3 (F : Nat → Nat) : List AOper := [
  ⟨some 5, .val (.mov (.k (.fn (F 13)))), none⟩]
/- clock.go:44 -/
def clock_Sweep_r4 (F : Nat → Nat) : List AOper := [
  ⟨some 11, .val (.field 0 (.t 1)), none⟩,
  ⟨some 12, .val (.load1 (.t 11)), none⟩,
  ⟨some 13, .val (.mov (.t 5)), none⟩,
  ⟨some 14, .call (F 14) [(.t 12), (.t 13)], none⟩,
  ⟨some 15, .val (.not (.t 14)), none⟩]
/- clock.go:45 -/
def clock_Sweep_r5 : List AOper := [
  ⟨some 16, .val (.loadA 2 (.t 1)), none⟩,
  ⟨none, .stA true 2 (.t 2) (.t 16), none⟩,
  ⟨some 3, .val (.mov (.k (.int .i64 0))), none⟩,
  ⟨some 4, .val (.mov (.k (.bool false))), none⟩]
/- clock.go:47 -/
def clock_Sweep_r6 (F : Nat → Nat) : List AOper := [
  ⟨some 17, .val (.field 0 (.t 1)), none⟩,
  ⟨some 18, .val (.load1 (.t 17)), none⟩,
  ⟨some 19, .call (F 15) [(.t 18)], none⟩,
  ⟨some 20, .val (.field 0 (.t 1)), none⟩,
  ⟨none, .st1 true (.t 20) (.t 19), none⟩]
/- clock.go:48 -/
def clock_Sweep_r7 : List AOper := [
  ⟨some 21, .val (.field 1 (.t 1)), none⟩,
  ⟨some 22, .val (.load1 (.t 21)), none⟩,
  ⟨some 6, .val (.mov (.t 22)), none⟩]
/- clock.go:49 -/
def clock_Sweep_r8 : List AOper := [
  ⟨some 23, .val (.mov (.t 5)), none⟩,
  ⟨some 24, .val (.field 0 (.t 1)), none⟩,
  ⟨some 25, .val (.load1 (.t 24)), none⟩,
  ⟨some 26, .val (.mov (.t 6)), none⟩,
  ⟨some 27, .val (.ixS 3 (.t 25) (.t 26)), none⟩,
  ⟨some 28, .val (.loadA 3 (.t 27)), none⟩,
  ⟨some 29, .callv (.t 23) [(.t 28)], none⟩,
  ⟨some 30, .val (.not (.t 29)), none⟩,
  ⟨some 31, .val (.mov (.t 30)), none⟩,
  ⟨some 32, .val (.field 0 (.t 1)), some (31, false)⟩,
  ⟨some 33, .val (.load1 (.t 32)), some (31, false)⟩,
  ⟨some 34, .val (.mov (.t 6)), some (31, false)⟩,
  ⟨some 35, .val (.ixS 3 (.t 33) (.t 34)), some (31, false)⟩,
  ⟨some 36, .val (.field 2 (.t 35)), some (31, false)⟩,
  ⟨some 37, .val (.load1 (.t 36)), some (31, false)⟩,
  ⟨some 38, .val (.por (.t 31) (.t 37)), none⟩]
/- clock.go:50 -/
def clock_Sweep_r9 : List AOper := [
  ⟨some 39, .val (.mov (.t 5)), none⟩,
  ⟨some 40, .val (.field 0 (.t 1)), none⟩,
  ⟨some 41, .val (.load1 (.t 40)), none⟩,
  ⟨some 42, .val (.mov (.t 6)), none⟩,
  ⟨some 43, .val (.ixS 3 (.t 41) (.t 42)), none⟩,
  ⟨some 44, .val (.loadA 3 (.t 43)), none⟩,
  ⟨some 45, .callv (.t 39) [(.t 44)], none⟩]
/- clock.go:51 -/
def clock_Sweep_r10 : List AOper := [
  ⟨some 46, .val (.field 0 (.t 1)), none⟩,
  ⟨some 47, .val (.load1 (.t 46)), none⟩,
  ⟨some 48, .val (.mov (.t 6)), none⟩,
  ⟨some 49, .val (.ixS 3 (.t 47) (.t 48)), none⟩,
  ⟨some 50, .val (.field 2 (.t 49)), none⟩,
  ⟨none, .st1 false (.t 50) (.k (.bool false)), none⟩]
/- clock.go:53 -/
def clock_Sweep_r11 : List AOper := [
  ⟨some 51, .val (.mov (.t 6)), none⟩,
  ⟨some 52, .val (.bin .add true (.t 51) (.k (.int .i64 1))), none⟩,
  ⟨some 53, .val (.field 0 (.t 1)), none⟩,
  ⟨some 54, .val (.load1 (.t 53)), none⟩,
  ⟨some 55, .val (.lenS (.t 54)), none⟩,
  ⟨some 56, .val (.bin .rem true (.t 52) (.t 55)), none⟩,
  ⟨some 6, .val (.mov (.t 56)), none⟩]
/- clock.go:55 -/
def clock_Sweep_r12 : List AOper := [
  ⟨some 57, .val (.mov (.t 6)), none⟩,
  ⟨some 58, .val (.bin .add true (.t 57) (.k (.int .i64 1))), none⟩,
  ⟨some 59, .val (.field 0 (.t 1)), none⟩,
  ⟨some 60, .val (.load1 (.t 59)), none⟩,
  ⟨some 61, .val (.lenS (.t 60)), none⟩,
  ⟨some 62, .val (.bin .rem true (.t 58) (.t 61)), none⟩,
  ⟨some 63, .val (.field 1 (.t 1)), none⟩,
  ⟨none, .st1 true (.t 63) (.t 62), none⟩]
/- clock.go:56 -/
def clock_Sweep_r13 : List AOper := [
  ⟨some 64, .val (.loadA 2 (.t 1)), none⟩,
  ⟨some 65, .val (.mov (.t 6)), none⟩,
  ⟨none, .stA true 2 (.t 2) (.t 64), none⟩,
  ⟨some 3, .val (.mov (.t 65)), none⟩,
  ⟨some 4, .val (.mov (.k (.bool true))), none⟩]
def clock_Sweep_c (F : Nat → Nat) : ACode :=
  (.seq
    (.reg clock_Sweep_r0 (some ([1, 2], [1, 2, 1019])))
    (.seq
      (.seq
        (.reg (clock_Sweep_r1 F) (some ([1, 2, 9], [1, 2, 1019])))
        (.cond (.t 9)
          (.seq
            (.reg clock_Sweep_r2 (some ([2, 3, 4], [2, 1019])))
            .ret)
          .skip))
      (.seq
        (.reg (clock_Sweep_r3 F) (some ([1, 2, 5], [1, 2, 1019])))
        (.seq
          (.seq
            (.reg (clock_Sweep_r4 F) (some ([1, 2, 5, 15], [1, 2, 1019])))
            (.cond (.t 15)
              (.seq
                (.reg clock_Sweep_r5 (some ([2, 3, 4], [2, 1019])))
                .ret)
              .skip))
          (.seq
            (.reg (clock_Sweep_r6 F) (some ([1, 2, 5], [1, 2, 1019])))
            (.seq
              (.reg clock_Sweep_r7 (some ([1, 2, 5, 6], [1, 2, 1019])))
              (.seq
                (.block 0
                  (.loop
                    (.seq
                      (.seq
                        (.reg clock_Sweep_r8 (some ([1, 2, 5, 6, 38], [1, 2, 1019])))
                        (.cond (.t 38)
                          .skip
                          (.exit 0)))
                      (.block 1
                        (.seq
                          (.seq
                            (.reg clock_Sweep_r9 (some ([1, 2, 5, 6, 45], [1, 2, 1019])))
                            (.cond (.t 45)
                              (.reg clock_Sweep_r10 (some ([1, 2, 5, 6], [1, 2, 1019])))
                              .skip))
                          (.reg clock_Sweep_r11 (some ([1, 2, 5, 6], [1, 2, 1019]))))))))
                (.seq
                  (.reg clock_Sweep_r12 (some ([1, 2, 6], [1, 2, 1019])))
                  (.seq
                    (.reg clock_Sweep_r13 (some ([2, 3, 4], [2, 1019])))
                    .ret)))))))))
def clock_Sweep_k (P : Program) (F : Nat → Nat) : Prop := chkFn P (F 2) 1 (clock_Sweep_c F) [.loadA 2 (.t 2), 3, 4] = true

/- lockkeeper/clock.Touch : names 0 c, 1 frame, 2 c, 3 frame uns [] -/
/- clock.go:60 -/
def clock_Touch_r0 : List AOper := [
  ⟨some 2, .box 2 (.t 0), none⟩,
  ⟨some 4, .alloc 2 [.nil 3, .int .i64 0], none⟩]
/- clock.go:61 -/
def clock_Touch_r1 (F : Nat → Nat) : List AOper := [
  ⟨some 5, .val (.loadA 2 (.t 2)), none⟩,
  ⟨some 6, .call (F 5) [(.t 5)], none⟩,
  ⟨some 7, .val (.not (.t 6)), none⟩,
  ⟨some 8, .val (.mov (.t 7)), none⟩,
  ⟨some 9, .val (.mov (.t 1)), some (8, false)⟩,
  ⟨some 10, .val (.bin .lss false (.t 9) (.k (.int .i64 0))), some (8, false)⟩,
  ⟨some 11, .val (.por (.t 8) (.t 10)), none⟩,
  ⟨some 12, .val (.mov (.t 11)), none⟩,
  ⟨some 13, .val (.mov (.t 1)), some (12, false)⟩,
  ⟨some 14, .val (.field 0 (.t 2)), some (12, false)⟩,
  ⟨some 15, .val (.load1 (.t 14)), some (12, false)⟩,
  ⟨some 16, .val (.lenS (.t 15)), some (12, false)⟩,
  ⟨some 17, .val (.bin .geq false (.t 13) (.t 16)), some (12, false)⟩,
  ⟨some 18, .val (.por (.t 12) (.t 17)), none⟩]
/- clock.go:62 -/
def clock_Touch_r2 : List AOper := [
  ⟨some 19, .val (.loadA 2 (.t 2)), none⟩,
  ⟨none, .stA true 2 (.t 4) (.t 19), none⟩]
/- clock.go:64 -/
def clock_Touch_r3 (F : Nat → Nat) : List AOper := [
  ⟨some 20, .val (.field 0 (.t 2)), none⟩,
  ⟨some 21, .val (.load1 (.t 20)), none⟩,
  ⟨some 22, .call (F 15) [(.t 21)], none⟩,
  ⟨some 23, .val (.field 0 (.t 2)), none⟩,
  ⟨none, .st1 true (.t 23) (.t 22), none⟩]
/- clock.go:65 -/
def clock_Touch_r4 : List AOper := [
  ⟨some 24, .val (.field 0 (.t 2)), none⟩,
  ⟨some 25, .val (.load1 (.t 24)), none⟩,
  ⟨some 26, .val (.mov (.t 1)), none⟩,
  ⟨some 27, .val (.ixS 3 (.t 25) (.t 26)), none⟩,
  ⟨some 28, .val (.field 2 (.t 27)), none⟩,
  ⟨none, .st1 false (.t 28) (.k (.bool true)), none⟩]
/- clock.go:66 -/
def clock_Touch_r5 : List AOper := [
  ⟨some 29, .val (.loadA 2 (.t 2)), none⟩,
  ⟨none, .stA true 2 (.t 4) (.t 29), none⟩]
def clock_Touch_c (F : Nat → Nat) : ACode :=
  (.seq
    (.reg clock_Touch_r0 (some ([1, 2, 4], [2, 4, 1022])))
    (.seq
      (.seq
        (.reg (clock_Touch_r1 F) (some ([1, 2, 4, 18], [2, 4, 1022])))
        (.cond (.t 18)
          (.seq
            (.reg clock_Touch_r2 (some ([4], [4, 1022])))
            .ret)
          .skip))
      (.seq
        (.reg (clock_Touch_r3 F) (some ([1, 2, 4], [2, 4, 1022])))
        (.seq
          (.reg clock_Touch_r4 (some ([2, 4], [2, 4, 1022])))
          (.seq
            (.reg clock_Touch_r5 (some ([4], [4, 1022])))
            .ret)))))
def clock_Touch_k (P : Program) (F : Nat → Nat) : Prop := chkFn P (F 3) 2 (clock_Touch_c F) [.loadA 2 (.t 4)] = true

/- lockkeeper/lockkeeperref09.Right : names 0 c, 1 c, 3 i, 4 f uns [] -/
/- ref.go:16 -/
def ref09_Right_r0 : List AOper := [
  ⟨some 1, .box 2 (.t 0), none⟩,
  ⟨some 2, .val (.mov (.k (.bool false))), none⟩]
/- ref.go:17 -/
def ref09_Right_r1 : List AOper := [
  ⟨some 5, .val (.field 0 (.t 1)), none⟩,
  ⟨some 6, .val (.load1 (.t 5)), none⟩,
  ⟨some 7, .val (.lenS (.t 6)), none⟩,
  ⟨some 8, .val (.bin .lss false (.t 7) (.k (.int .i64 1))), none⟩,
  ⟨some 9, .val (.mov (.t 8)), none⟩,
  ⟨some 10, .val (.field 0 (.t 1)), some (9, false)⟩,
  ⟨some 11, .val (.load1 (.t 10)), some (9, false)⟩,
  ⟨some 12, .val (.lenS (.t 11)), some (9, false)⟩,
  ⟨some 13, .val (.bin .gtr false (.t 12) (.k (.int .i64 8))), some (9, false)⟩,
  ⟨some 14, .val (.por (.t 9) (.t 13)), none⟩,
  ⟨some 15, .val (.mov (.t 14)), none⟩,
  ⟨some 16, .val (.field 1 (.t 1)), some (15, false)⟩,
  ⟨some 17, .val (.load1 (.t 16)), some (15, false)⟩,
  ⟨some 18, .val (.bin .lss false (.t 17) (.k (.int .i64 0))), some (15, false)⟩,
  ⟨some 19, .val (.por (.t 15) (.t 18)), none⟩,
  ⟨some 20, .val (.mov (.t 19)), none⟩,
  ⟨some 21, .val (.field 1 (.t 1)), some (20, false)⟩,
  ⟨some 22, .val (.load1 (.t 21)), some (20, false)⟩,
  ⟨some 23, .val (.field 0 (.t 1)), some (20, false)⟩,
  ⟨some 24, .val (.load1 (.t 23)), some (20, false)⟩,
  ⟨some 25, .val (.lenS (.t 24)), some (20, false)⟩,
  ⟨some 26, .val (.bin .geq false (.t 22) (.t 25)), some (20, false)⟩,
  ⟨some 27, .val (.por (.t 20) (.t 26)), none⟩]
/- ref.go:18 -/
def ref09_Right_r2 : List AOper := [
  ⟨some 2, .val (.mov (.k (.bool false))), none⟩]
/- ref.go:20 -/
def ref09_Right_r3 : List AOper := [
  ⟨some 3, .val (.mov (.k (.int .i64 0))), none⟩]
/- ref.go:20 -/
def ref09_Right_r4 : List AOper := [
  ⟨some 28, .val (.mov (.t 3)), none⟩,
  ⟨some 29, .val (.field 0 (.t 1)), none⟩,
  ⟨some 30, .val (.load1 (.t 29)), none⟩,
  ⟨some 31, .val (.lenS (.t 30)), none⟩,
  ⟨some 32, .val (.bin .lss false (.t 28) (.t 31)), none⟩]
/- ref.go:21 -/
def ref09_Right_r6 : List AOper := [
  ⟨some 35, .val (.field 0 (.t 1)), none⟩,
  ⟨some 36, .val (.load1 (.t 35)), none⟩,
  ⟨some 37, .val (.mov (.t 3)), none⟩,
  ⟨some 38, .val (.ixS 3 (.t 36) (.t 37)), none⟩,
  ⟨some 39, .val (.loadA 3 (.t 38)), none⟩,
  ⟨some 4, .alloc 3 [.int .i64 0, .int .i64 0, .bool false], none⟩,
  ⟨none, .stA true 3 (.t 4) (.t 39), none⟩]
/- ref.go:22 -/
def ref09_Right_r7 : List AOper := [
  ⟨some 40, .val (.field 0 (.t 4)), none⟩,
  ⟨some 41, .val (.load1 (.t 40)), none⟩,
  ⟨some 42, .val (.bin .lss false (.t 41) (.k (.int .i64 0))), none⟩,
  ⟨some 43, .val (.mov (.t 42)), none⟩,
  ⟨some 44, .val (.field 0 (.t 4)), some (43, false)⟩,
  ⟨some 45, .val (.load1 (.t 44)), some (43, false)⟩,
  ⟨some 46, .val (.bin .gtr false (.t 45) (.k (.int .i64 16))), some (43, false)⟩,
  ⟨some 47, .val (.por (.t 43) (.t 46)), none⟩,
  ⟨some 48, .val (.mov (.t 47)), none⟩,
  ⟨some 49, .val (.field 1 (.t 4)), some (48, false)⟩,
  ⟨some 50, .val (.load1 (.t 49)), some (48, false)⟩,
  ⟨some 51, .val (.bin .lss false (.t 50) (.k (.int .i64 0))), some (48, false)⟩,
  ⟨some 52, .val (.por (.t 48) (.t 51)), none⟩,
  ⟨some 53, .val (.mov (.t 52)), none⟩,
  ⟨some 54, .val (.field 1 (.t 4)), some (53, false)⟩,
  ⟨some 55, .val (.load1 (.t 54)), some (53, false)⟩,
  ⟨some 56, .val (.bin .gtr false (.t 55) (.k (.int .i64 2147483647))), some (53, false)⟩,
  ⟨some 57, .val (.por (.t 53) (.t 56)), none⟩]
/- ref.go:23 -/
def ref09_Right_r8 : List AOper := [
  ⟨some 2, .val (.mov (.k (.bool false))), none⟩]
/- ref.go:20 -/
def ref09_Right_r5 : List AOper := [
  ⟨some 33, .val (.mov (.t 3)), none⟩,
  ⟨some 34, .val (.bin .add true (.t 33) (.k (.int .i64 1))), none⟩,
  ⟨some 3, .val (.mov (.t 34)), none⟩]
/- ref.go:26 -/
def ref09_Right_r9 : List AOper := [
  ⟨some 2, .val (.mov (.k (.bool true))), none⟩]
def ref09_Right_c : ACode :=
  (.seq
    (.reg ref09_Right_r0 (some ([1], [1])))
    (.seq
      (.seq
        (.reg ref09_Right_r1 (some ([1, 27], [1])))
        (.cond (.t 27)
          (.seq
            (.reg ref09_Right_r2 (some ([2], [])))
            .ret)
          .skip))
      (.seq
        (.seq
          (.reg ref09_Right_r3 (some ([1, 3], [1])))
          (.block 0
            (.loop
              (.seq
                (.seq
                  (.reg ref09_Right_r4 (some ([1, 3, 32], [1])))
                  (.cond (.t 32)
                    .skip
                    (.exit 0)))
                (.seq
                  (.block 1
                    (.seq
                      (.reg ref09_Right_r6 (some ([1, 3, 4], [1, 4])))
                      (.seq
                        (.reg ref09_Right_r7 (some ([1, 3, 57], [1])))
                        (.cond (.t 57)
                          (.seq
                            (.reg ref09_Right_r8 (some ([2], [])))
                            .ret)
                          .skip))))
                  (.reg ref09_Right_r5 (some ([1, 3], [1]))))))))
        (.seq
          (.reg ref09_Right_r9 (some ([2], [])))
          .ret))))
def ref09_Right_k (P : Program) (F : Nat → Nat) : Prop := chkFn P (F 4) 1 (ref09_Right_c) [2] = true

/- lockkeeper/clock.Right : names 0 c, 1 c, 3 _, 4 f uns [] -/
/- clock.go:23 -/
def clock_Right_r0 : List AOper := [
  ⟨some 1, .box 2 (.t 0), none⟩,
  ⟨some 2, .val (.mov (.k (.bool false))), none⟩]
/- clock.go:24 -/
def clock_Right_r1 : List AOper := [
  ⟨some 5, .val (.field 0 (.t 1)), none⟩,
  ⟨some 6, .val (.load1 (.t 5)), none⟩,
  ⟨some 7, .val (.lenS (.t 6)), none⟩,
  ⟨some 8, .val (.bin .lss false (.t 7) (.k (.int .i64 1))), none⟩,
  ⟨some 9, .val (.mov (.t 8)), none⟩,
  ⟨some 10, .val (.field 0 (.t 1)), some (9, false)⟩,
  ⟨some 11, .val (.load1 (.t 10)), some (9, false)⟩,
  ⟨some 12, .val (.lenS (.t 11)), some (9, false)⟩,
  ⟨some 13, .val (.bin .gtr false (.t 12) (.k (.int .i64 8))), some (9, false)⟩,
  ⟨some 14, .val (.por (.t 9) (.t 13)), none⟩]
/- clock.go:25 -/
def clock_Right_r2 : List AOper := [
  ⟨some 2, .val (.mov (.k (.bool false))), none⟩]
/- clock.go:27 -/
def clock_Right_r3 : List AOper := [
  ⟨some 15, .val (.field 1 (.t 1)), none⟩,
  ⟨some 16, .val (.load1 (.t 15)), none⟩,
  ⟨some 17, .val (.bin .lss false (.t 16) (.k (.int .i64 0))), none⟩,
  ⟨some 18, .val (.mov (.t 17)), none⟩,
  ⟨some 19, .val (.field 1 (.t 1)), some (18, false)⟩,
  ⟨some 20, .val (.load1 (.t 19)), some (18, false)⟩,
  ⟨some 21, .val (.field 0 (.t 1)), some (18, false)⟩,
  ⟨some 22, .val (.load1 (.t 21)), some (18, false)⟩,
  ⟨some 23, .val (.lenS (.t 22)), some (18, false)⟩,
  ⟨some 24, .val (.bin .geq false (.t 20) (.t 23)), some (18, false)⟩,
  ⟨some 25, .val (.por (.t 18) (.t 24)), none⟩]
/- clock.go:28 -/
def clock_Right_r4 : List AOper := [
  ⟨some 2, .val (.mov (.k (.bool false))), none⟩]
/- clock.go:30 -/
def clock_Right_r5 : List AOper := [
  ⟨some 26, .val (.field 0 (.t 1)), none⟩,
  ⟨some 27, .val (.load1 (.t 26)), none⟩,
  ⟨some 28, .val (.lenS (.t 27)), none⟩,
  ⟨some 29, .val (.mov (.k (.int .i64 0))), none⟩]
/- clock.go:30 -/
def clock_Right_r6 : List AOper := [
  ⟨some 30, .val (.bin .lss false (.t 29) (.t 28)), none⟩]
/- clock.go:30 -/
def clock_Right_r7 : List AOper := [
  ⟨some 31, .val (.ixS 3 (.t 27) (.t 29)), none⟩,
  ⟨some 32, .val (.loadA 3 (.t 31)), none⟩,
  ⟨some 4, .alloc 3 [.int .i64 0, .int .i64 0, .bool false], none⟩,
  ⟨none, .stA true 3 (.t 4) (.t 32), none⟩]
/- clock.go:31 -/
def clock_Right_r8 : List AOper := [
  ⟨some 33, .val (.field 0 (.t 4)), none⟩,
  ⟨some 34, .val (.load1 (.t 33)), none⟩,
  ⟨some 35, .val (.bin .lss false (.t 34) (.k (.int .i64 0))), none⟩,
  ⟨some 36, .val (.mov (.t 35)), none⟩,
  ⟨some 37, .val (.field 0 (.t 4)), some (36, false)⟩,
  ⟨some 38, .val (.load1 (.t 37)), some (36, false)⟩,
  ⟨some 39, .val (.bin .gtr false (.t 38) (.k (.int .i64 16))), some (36, false)⟩,
  ⟨some 40, .val (.por (.t 36) (.t 39)), none⟩,
  ⟨some 41, .val (.mov (.t 40)), none⟩,
  ⟨some 42, .val (.field 1 (.t 4)), some (41, false)⟩,
  ⟨some 43, .val (.load1 (.t 42)), some (41, false)⟩,
  ⟨some 44, .val (.bin .lss false (.t 43) (.k (.int .i64 0))), some (41, false)⟩,
  ⟨some 45, .val (.por (.t 41) (.t 44)), none⟩,
  ⟨some 46, .val (.mov (.t 45)), none⟩,
  ⟨some 47, .val (.field 1 (.t 4)), some (46, false)⟩,
  ⟨some 48, .val (.load1 (.t 47)), some (46, false)⟩,
  ⟨some 49, .val (.bin .gtr false (.t 48) (.k (.int .i64 2147483647))), some (46, false)⟩,
  ⟨some 50, .val (.por (.t 46) (.t 49)), none⟩]
/- clock.go:32 -/
def clock_Right_r9 : List AOper := [
  ⟨some 2, .val (.mov (.k (.bool false))), none⟩]
/- clock.go:30 -/
def clock_Right_r10 : List AOper := [
  ⟨some 51, .val (.bin .add true (.t 29) (.k (.int .i64 1))), none⟩,
  ⟨some 29, .val (.mov (.t 51)), none⟩]
/- clock.go:35 -/
def clock_Right_r11 : List AOper := [
  ⟨some 2, .val (.mov (.k (.bool true))), none⟩]
def clock_Right_c : ACode :=
  (.seq
    (.reg clock_Right_r0 (some ([1], [1])))
    (.seq
      (.seq
        (.reg clock_Right_r1 (some ([1, 14], [1])))
        (.cond (.t 14)
          (.seq
            (.reg clock_Right_r2 (some ([2], [])))
            .ret)
          .skip))
      (.seq
        (.seq
          (.reg clock_Right_r3 (some ([1, 25], [1])))
          (.cond (.t 25)
            (.seq
              (.reg clock_Right_r4 (some ([2], [])))
              .ret)
            .skip))
        (.seq
          (.seq
            (.reg clock_Right_r5 (some ([27, 28, 29], [])))
            (.block 0
              (.loop
                (.seq
                  (.reg clock_Right_r6 (some ([27, 28, 29, 30], [])))
                  (.seq
                    (.cond (.t 30)
                      .skip
                      (.exit 0))
                    (.seq
                      (.block 1
                        (.seq
                          (.reg clock_Right_r7 (some ([4, 27, 28, 29], [4])))
                          (.seq
                            (.reg clock_Right_r8 (some ([27, 28, 29, 50], [])))
                            (.cond (.t 50)
                              (.seq
                                (.reg clock_Right_r9 (some ([2], [])))
                                .ret)
                              .skip))))
                      (.reg clock_Right_r10 (some ([27, 28, 29], [])))))))))
          (.seq
            (.reg clock_Right_r11 (some ([2], [])))
            .ret)))))
def clock_Right_k (P : Program) (F : Nat → Nat) : Prop := chkFn P (F 5) 1 (clock_Right_c) [2] = true

/- lockkeeper/lockkeeperref09.Same : names 0 a, 1 b, 2 a, 3 b, 5 i uns [] -/
/- ref.go:65 -/
def ref09_Same_r0 : List AOper := [
  ⟨some 2, .box 2 (.t 0), none⟩,
  ⟨some 3, .box 2 (.t 1), none⟩,
  ⟨some 4, .val (.mov (.k (.bool false))), none⟩]
/- ref.go:66 -/
def ref09_Same_r1 : List AOper := [
  ⟨some 6, .val (.field 0 (.t 2)), none⟩,
  ⟨some 7, .val (.load1 (.t 6)), none⟩,
  ⟨some 8, .val (.lenS (.t 7)), none⟩,
  ⟨some 9, .val (.field 0 (.t 3)), none⟩,
  ⟨some 10, .val (.load1 (.t 9)), none⟩,
  ⟨some 11, .val (.lenS (.t 10)), none⟩,
  ⟨some 12, .val (.bin .neq false (.t 8) (.t 11)), none⟩,
  ⟨some 13, .val (.mov (.t 12)), none⟩,
  ⟨some 14, .val (.field 1 (.t 2)), some (13, false)⟩,
  ⟨some 15, .val (.load1 (.t 14)), some (13, false)⟩,
  ⟨some 16, .val (.field 1 (.t 3)), some (13, false)⟩,
  ⟨some 17, .val (.load1 (.t 16)), some (13, false)⟩,
  ⟨some 18, .val (.bin .neq false (.t 15) (.t 17)), some (13, false)⟩,
  ⟨some 19, .val (.por (.t 13) (.t 18)), none⟩]
/- ref.go:67 -/
def ref09_Same_r2 : List AOper := [
  ⟨some 4, .val (.mov (.k (.bool false))), none⟩]
/- ref.go:69 -/
def ref09_Same_r3 : List AOper := [
  ⟨some 5, .val (.mov (.k (.int .i64 0))), none⟩]
/- ref.go:69 -/
def ref09_Same_r4 : List AOper := [
  ⟨some 20, .val (.mov (.t 5)), none⟩,
  ⟨some 21, .val (.field 0 (.t 2)), none⟩,
  ⟨some 22, .val (.load1 (.t 21)), none⟩,
  ⟨some 23, .val (.lenS (.t 22)), none⟩,
  ⟨some 24, .val (.bin .lss false (.t 20) (.t 23)), none⟩]
/- ref.go:70 DRAWS -/
def ref09_Same_r6 : List AOper := [
  ⟨some 27, .val (.field 0 (.t 2)), none⟩,
  ⟨some 28, .val (.load1 (.t 27)), none⟩,
  ⟨some 29, .val (.mov (.t 5)), none⟩,
  ⟨some 30, .val (.ixS 3 (.t 28) (.t 29)), none⟩,
  ⟨some 31, .val (.loadA 3 (.t 30)), none⟩,
  ⟨some 32, .val (.field 0 (.t 3)), none⟩,
  ⟨some 33, .val (.load1 (.t 32)), none⟩,
  ⟨some 34, .val (.mov (.t 5)), none⟩,
  ⟨some 35, .val (.ixS 3 (.t 33) (.t 34)), none⟩,
  ⟨some 36, .val (.loadA 3 (.t 35)), none⟩,
  ⟨some 37, .val (.eqA true [0, 0, 1] (.t 31) (.t 36)), none⟩]
/- ref.go:71 -/
def ref09_Same_r7 : List AOper := [
  ⟨some 4, .val (.mov (.k (.bool false))), none⟩]
/- ref.go:69 -/
def ref09_Same_r5 : List AOper := [
  ⟨some 25, .val (.mov (.t 5)), none⟩,
  ⟨some 26, .val (.bin .add true (.t 25) (.k (.int .i64 1))), none⟩,
  ⟨some 5, .val (.mov (.t 26)), none⟩]
/- ref.go:74 -/
def ref09_Same_r8 : List AOper := [
  ⟨some 4, .val (.mov (.k (.bool true))), none⟩]
def ref09_Same_c : ACode :=
  (.seq
    (.reg ref09_Same_r0 (some ([2, 3], [2, 3])))
    (.seq
      (.seq
        (.reg ref09_Same_r1 (some ([2, 3, 19], [2, 3])))
        (.cond (.t 19)
          (.seq
            (.reg ref09_Same_r2 (some ([4], [])))
            .ret)
          .skip))
      (.seq
        (.seq
          (.reg ref09_Same_r3 (some ([2, 3, 5], [2, 3])))
          (.block 0
            (.loop
              (.seq
                (.seq
                  (.reg ref09_Same_r4 (some ([2, 3, 5, 24], [2, 3])))
                  (.cond (.t 24)
                    .skip
                    (.exit 0)))
                (.seq
                  (.block 1
                    (.seq
                      (.regD ref09_Same_r6 [] (some ([2, 3, 5, 37], [2, 3])))
                      (.cond (.t 37)
                        (.seq
                          (.reg ref09_Same_r7 (some ([4], [])))
                          .ret)
                        .skip)))
                  (.reg ref09_Same_r5 (some ([2, 3, 5], [2, 3]))))))))
        (.seq
          (.reg ref09_Same_r8 (some ([4], [])))
          .ret))))
def ref09_Same_k (P : Program) (F : Nat → Nat) : Prop := chkFn P (F 6) 2 (ref09_Same_c) [4] = true

/- lockkeeper/lockkeeperref09.Sweep : names 0 c, 1 c, 4 many, 5 n, 6 whole, 7 at, 8 out, 9 i, 10 f, 11 passed uns [] -/
/- ref.go:41 -/
def ref09_Sweep_r0 : List AOper := [
  ⟨some 1, .box 2 (.t 0), none⟩,
  ⟨some 2, .alloc 2 [.nil 3, .int .i64 0], none⟩,
  ⟨some 3, .val (.mov (.k (.int .i64 0))), none⟩]
/- ref.go:42 -/
def ref09_Sweep_r1 : List AOper := [
  ⟨some 12, .val (.field 0 (.t 1)), none⟩,
  ⟨some 13, .val (.load1 (.t 12)), none⟩,
  ⟨some 14, .val (.lenS (.t 13)), none⟩,
  ⟨some 4, .val (.mov (.t 14)), none⟩]
/- ref.go:43 -/
def ref09_Sweep_r2 (F : Nat → Nat) : List AOper := [
  ⟨some 15, .val (.loadA 2 (.t 1)), none⟩,
  ⟨some 16, .call (F 16) [(.t 15), (.k (.bool false))], none⟩,
  ⟨some 5, .val (.mov (.t 16)), none⟩]
/- ref.go:44 -/
def ref09_Sweep_r3 : List AOper := [
  ⟨some 17, .val (.mov (.t 5)), none⟩,
  ⟨some 18, .val (.bin .lss false (.t 17) (.k (.int .i64 0))), none⟩,
  ⟨some 6, .val (.mov (.t 18)), none⟩]
/- ref.go:45 -/
def ref09_Sweep_r4 : List AOper := [
  ⟨some 19, .val (.mov (.t 6)), none⟩]
/- ref.go:46 -/
def ref09_Sweep_r5 (F : Nat → Nat) : List AOper := [
  ⟨some 20, .val (.loadA 2 (.t 1)), none⟩,
  ⟨some 21, .call (F 16) [(.t 20), (.k (.bool true))], none⟩,
  ⟨some 5, .val (.mov (.t 21)), none⟩]
/- ref.go:48 -/
def ref09_Sweep_r6 : List AOper := [
  ⟨some 22, .val (.mov (.t 5)), none⟩,
  ⟨some 23, .val (.bin .lss false (.t 22) (.k (.int .i64 0))), none⟩]
/- ref.go:49 -/
def ref09_Sweep_r7 : List AOper := [
  ⟨some 24, .val (.loadA 2 (.t 1)), none⟩,
  ⟨none, .stA true 2 (.t 2) (.t 24), none⟩,
  ⟨some 3, .val (.mov (.k (.int .i64 (-1)))), none⟩]
/- ref.go:51 -/
def ref09_Sweep_r8 : List AOper := [
  ⟨some 25, .val (.field 1 (.t 1)), none⟩,
  ⟨some 26, .val (.load1 (.t 25)), none⟩,
  ⟨some 27, .val (.mov (.t 5)), none⟩,
  ⟨some 28, .val (.bin .add true (.t 26) (.t 27)), none⟩,
  ⟨some 29, .val (.mov (.t 4)), none⟩,
  ⟨some 30, .val (.bin .rem true (.t 28) (.t 29)), none⟩,
  ⟨some 7, .val (.mov (.t 30)), none⟩]
/- ref.go:52 -/
def ref09_Sweep_r9 : List AOper := [
  ⟨some 31, .val (.mov (.t 7)), none⟩,
  ⟨some 32, .val (.bin .add true (.t 31) (.k (.int .i64 1))), none⟩,
  ⟨some 33, .val (.mov (.t 4)), none⟩,
  ⟨some 34, .val (.bin .rem true (.t 32) (.t 33)), none⟩,
  ⟨some 35, .val (.build 2 [.nil 3, .int .i64 0] [(1, 1, (.t 34))]), none⟩,
  ⟨some 8, .alloc 2 [.nil 3, .int .i64 0], none⟩,
  ⟨none, .stA true 2 (.t 8) (.t 35), none⟩]
/- ref.go:53 -/
def ref09_Sweep_r10 : List AOper := [
  ⟨some 9, .val (.mov (.k (.int .i64 0))), none⟩]
/- ref.go:53 -/
def ref09_Sweep_r11 : List AOper := [
  ⟨some 36, .val (.mov (.t 9)), none⟩,
  ⟨some 37, .val (.mov (.t 4)), none⟩,
  ⟨some 38, .val (.bin .lss false (.t 36) (.t 37)), none⟩]
/- ref.go:54 -/
def ref09_Sweep_r13 : List AOper := [
  ⟨some 41, .val (.field 0 (.t 1)), none⟩,
  ⟨some 42, .val (.load1 (.t 41)), none⟩,
  ⟨some 43, .val (.mov (.t 9)), none⟩,
  ⟨some 44, .val (.ixS 3 (.t 42) (.t 43)), none⟩,
  ⟨some 45, .val (.loadA 3 (.t 44)), none⟩,
  ⟨some 10, .alloc 3 [.int .i64 0, .int .i64 0, .bool false], none⟩,
  ⟨none, .stA true 3 (.t 10) (.t 45), none⟩]
/- ref.go:55 -/
def ref09_Sweep_r14 : List AOper := [
  ⟨some 46, .val (.mov (.t 9)), none⟩,
  ⟨some 47, .val (.field 1 (.t 1)), none⟩,
  ⟨some 48, .val (.load1 (.t 47)), none⟩,
  ⟨some 49, .val (.bin .sub true (.t 46) (.t 48)), none⟩,
  ⟨some 50, .val (.mov (.t 4)), none⟩,
  ⟨some 51, .val (.bin .add true (.t 49) (.t 50)), none⟩,
  ⟨some 52, .val (.mov (.t 4)), none⟩,
  ⟨some 53, .val (.bin .rem true (.t 51) (.t 52)), none⟩,
  ⟨some 54, .val (.mov (.t 5)), none⟩,
  ⟨some 55, .val (.bin .lss false (.t 53) (.t 54)), none⟩,
  ⟨some 11, .val (.mov (.t 55)), none⟩]
/- ref.go:56 -/
def ref09_Sweep_r15 : List AOper := [
  ⟨some 56, .val (.field 1 (.t 10)), none⟩,
  ⟨some 57, .val (.load1 (.t 56)), none⟩,
  ⟨some 58, .val (.bin .eql false (.t 57) (.k (.int .i64 0))), none⟩,
  ⟨some 59, .val (.mov (.t 58)), none⟩,
  ⟨some 60, .val (.mov (.t 6)), some (59, true)⟩,
  ⟨some 61, .val (.mov (.t 60)), some (59, true)⟩,
  ⟨some 62, .val (.mov (.t 11)), some (61, false)⟩,
  ⟨some 63, .val (.por (.t 61) (.t 62)), some (59, true)⟩,
  ⟨some 64, .val (.pand (.t 59) (.t 63)), none⟩]
/- ref.go:57 -/
def ref09_Sweep_r16 : List AOper := [
  ⟨some 65, .val (.field 2 (.t 10)), none⟩,
  ⟨none, .st1 true (.t 65) (.k (.bool false)), none⟩]
/- ref.go:59 -/
def ref09_Sweep_r17 : List AOper := [
  ⟨some 66, .val (.field 0 (.t 8)), none⟩,
  ⟨some 67, .val (.load1 (.t 66)), none⟩,
  ⟨some 68, .val (.loadA 3 (.t 10)), none⟩,
  ⟨some 69, .buildS 3 1 [.int .i64 0, .int .i64 0, .bool false] [(0, (.t 68))], none⟩,
  ⟨some 70, .app 3 24 (.t 67) (.t 69), none⟩,
  ⟨some 71, .val (.field 0 (.t 8)), none⟩,
  ⟨none, .st1 true (.t 71) (.t 70), none⟩]
/- ref.go:53 -/
def ref09_Sweep_r12 : List AOper := [
  ⟨some 39, .val (.mov (.t 9)), none⟩,
  ⟨some 40, .val (.bin .add true (.t 39) (.k (.int .i64 1))), none⟩,
  ⟨some 9, .val (.mov (.t 40)), none⟩]
/- ref.go:61 -/
def ref09_Sweep_r18 : List AOper := [
  ⟨some 72, .val (.loadA 2 (.t 8)), none⟩,
  ⟨some 73, .val (.mov (.t 7)), none⟩,
  ⟨none, .stA true 2 (.t 2) (.t 72), none⟩,
  ⟨some 3, .val (.mov (.t 73)), none⟩]
def ref09_Sweep_c (F : Nat → Nat) : ACode :=
  (.seq
    (.reg ref09_Sweep_r0 (some ([1, 2], [1, 2, 69, 70])))
    (.seq
      (.reg ref09_Sweep_r1 (some ([1, 2, 4], [1, 2, 69, 70])))
      (.seq
        (.reg (ref09_Sweep_r2 F) (some ([1, 2, 4, 5], [1, 2, 69, 70])))
        (.seq
          (.reg ref09_Sweep_r3 (some ([1, 2, 4, 5, 6], [1, 2, 69, 70])))
          (.seq
            (.seq
              (.reg ref09_Sweep_r4 (some ([1, 2, 4, 5, 6, 19], [1, 2, 69, 70])))
              (.cond (.t 19)
                (.reg (ref09_Sweep_r5 F) (some ([1, 2, 4, 5, 6], [1, 2, 69, 70])))
                .skip))
            (.seq
              (.seq
                (.reg ref09_Sweep_r6 (some ([1, 2, 4, 5, 6, 23], [1, 2, 69, 70])))
                (.cond (.t 23)
                  (.seq
                    (.reg ref09_Sweep_r7 (some ([2, 3], [2, 69, 70])))
                    .ret)
                  .skip))
              (.seq
                (.reg ref09_Sweep_r8 (some ([1, 2, 4, 5, 6, 7], [1, 2, 69, 70])))
                (.seq
                  (.reg ref09_Sweep_r9 (some ([1, 2, 4, 5, 6, 7, 8], [1, 2, 8, 69, 70])))
                  (.seq
                    (.seq
                      (.reg ref09_Sweep_r10 (some ([1, 2, 4, 5, 6, 7, 8, 9], [1, 2, 8, 69, 70])))
                      (.block 0
                        (.loop
                          (.seq
                            (.seq
                              (.reg ref09_Sweep_r11 (some ([1, 2, 4, 5, 6, 7, 8, 9, 38], [1, 2, 8, 69, 70])))
                              (.cond (.t 38)
                                .skip
                                (.exit 0)))
                            (.seq
                              (.block 1
                                (.seq
                                  (.reg ref09_Sweep_r13 (some ([1, 2, 4, 5, 6, 7, 8, 9, 10], [1, 2, 8, 10, 69, 70])))
                                  (.seq
                                    (.reg ref09_Sweep_r14 (some ([1, 2, 4, 5, 6, 7, 8, 9, 10, 11], [1, 2, 8, 10, 69, 70])))
                                    (.seq
                                      (.seq
                                        (.reg ref09_Sweep_r15 (some ([1, 2, 4, 5, 6, 7, 8, 9, 10, 64], [1, 2, 8, 10, 69, 70])))
                                        (.cond (.t 64)
                                          (.reg ref09_Sweep_r16 (some ([1, 2, 4, 5, 6, 7, 8, 9, 10], [1, 2, 8, 10, 69, 70])))
                                          .skip))
                                      (.reg ref09_Sweep_r17 (some ([1, 2, 4, 5, 6, 7, 8, 9], [1, 2, 8, 69, 70])))))))
                              (.reg ref09_Sweep_r12 (some ([1, 2, 4, 5, 6, 7, 8, 9], [1, 2, 8, 69, 70]))))))))
                    (.seq
                      (.reg ref09_Sweep_r18 (some ([2, 3], [2, 69, 70])))
                      .ret))))))))))
def ref09_Sweep_k (P : Program) (F : Nat → Nat) : Prop := chkFn P (F 7) 1 (ref09_Sweep_c F) [.loadA 2 (.t 2), 3] = true

/- lockkeeper/clock.Sweep$1 : names 0 f, 1 f uns [] -/
/- clock.go:43 -/
def clock_Sweep_1_r0 : List AOper := [
  ⟨some 1, .box 3 (.t 0), none⟩,
  ⟨some 2, .val (.mov (.k (.bool false))), none⟩]
/- clock.go:43 -/
def clock_Sweep_1_r1 : List AOper := [
  ⟨some 3, .val (.field 1 (.t 1)), none⟩,
  ⟨some 4, .val (.load1 (.t 3)), none⟩,
  ⟨some 5, .val (.bin .eql false (.t 4) (.k (.int .i64 0))), none⟩,
  ⟨some 2, .val (.mov (.t 5)), none⟩]
def clock_Sweep_1_c : ACode :=
  (.seq
    (.reg clock_Sweep_1_r0 (some ([1], [1])))
    (.seq
      (.reg clock_Sweep_1_r1 (some ([2], [])))
      .ret))
def clock_Sweep_1_k (P : Program) (F : Nat → Nat) : Prop := chkFn P (F 13) 1 (clock_Sweep_1_c) [2] = true

/- slices.ContainsFunc[[]lockkeeper/clock.Frame,lockkeeper/clock.Frame] : names 0 s, 1 f, 2 s, 3 f uns [] -/
/- slices.go:124 -/
def sl_ContainsFunc_clock_Frame_r0 : List AOper := [
  ⟨some 4, .val (.mov (.k (.bool false))), none⟩]
/- slices.go:125 -/
def sl_ContainsFunc_clock_Frame_r1 (F : Nat → Nat) : List AOper := [
  ⟨some 5, .val (.mov (.t 0)), none⟩,
  ⟨some 6, .val (.mov (.t 1)), none⟩,
  ⟨some 7, .call (F 17) [(.t 5), (.t 6)], none⟩,
  ⟨some 8, .val (.bin .geq false (.t 7) (.k (.int .i64 0))), none⟩,
  ⟨some 4, .val (.mov (.t 8)), none⟩]
def sl_ContainsFunc_clock_Frame_c (F : Nat → Nat) : ACode :=
  (.seq
    (.reg sl_ContainsFunc_clock_Frame_r0 (some ([0, 1], [])))
    (.seq
      (.reg (sl_ContainsFunc_clock_Frame_r1 F) (some ([4], [])))
      .ret))
def sl_ContainsFunc_clock_Frame_k (P : Program) (F : Nat → Nat) : Prop := chkFn P (F 14) 2 (sl_ContainsFunc_clock_Frame_c F) [4] = true

/- slices.Clone[[]lockkeeper/clock.Frame,lockkeeper/clock.Frame] : names 0 s, 1 s uns [] -/
/- slices.go:355 -/
def sl_Clone_clock_Frame_r0 : List AOper := [
  ⟨some 2, .val (.mov (.k (.nil 3))), none⟩]
/- slices.go:357 -/
def sl_Clone_clock_Frame_r1 : List AOper := [
  ⟨some 3, .val (.mov (.t 0)), none⟩,
  ⟨some 4, .val (.nilS (.t 3)), none⟩]
/- slices.go:358 -/
def sl_Clone_clock_Frame_r2 : List AOper := [
  ⟨some 2, .val (.mov (.k (.nil 3))), none⟩]
/- slices.go:362 -/
def sl_Clone_clock_Frame_r3 : List AOper := [
  ⟨some 5, .buildS 3 0 [.int .i64 0, .int .i64 0, .bool false] [], none⟩,
  ⟨some 6, .val (.mov (.t 0)), none⟩,
  ⟨some 7, .app 3 24 (.t 5) (.t 6), none⟩,
  ⟨some 2, .val (.mov (.t 7)), none⟩]
def sl_Clone_clock_Frame_c : ACode :=
  (.seq
    (.reg sl_Clone_clock_Frame_r0 (some ([0], [5, 7])))
    (.seq
      (.seq
        (.reg sl_Clone_clock_Frame_r1 (some ([0, 4], [5, 7])))
        (.cond (.t 4)
          (.seq
            (.reg sl_Clone_clock_Frame_r2 (some ([2], [5, 7])))
            .ret)
          .skip))
      (.seq
        (.reg sl_Clone_clock_Frame_r3 (some ([2], [5, 7])))
        .ret)))
def sl_Clone_clock_Frame_k (P : Program) (F : Nat → Nat) : Prop := chkFn P (F 15) 1 (sl_Clone_clock_Frame_c) [2] = true

/- lockkeeper/lockkeeperref09.first : names 0 c, 1 any, 2 c, 3 any, 5 n, 6 f uns [] -/
/- ref.go:30 -/
def ref09_first_r0 : List AOper := [
  ⟨some 2, .box 2 (.t 0), none⟩,
  ⟨some 4, .val (.mov (.k (.int .i64 0))), none⟩]
/- ref.go:31 -/
def ref09_first_r1 : List AOper := [
  ⟨some 5, .val (.mov (.k (.int .i64 0))), none⟩]
/- ref.go:31 -/
def ref09_first_r2 : List AOper := [
  ⟨some 7, .val (.mov (.t 5)), none⟩,
  ⟨some 8, .val (.field 0 (.t 2)), none⟩,
  ⟨some 9, .val (.load1 (.t 8)), none⟩,
  ⟨some 10, .val (.lenS (.t 9)), none⟩,
  ⟨some 11, .val (.bin .lss false (.t 7) (.t 10)), none⟩]
/- ref.go:32 DRAWS -/
def ref09_first_r4 : List AOper := [
  ⟨some 14, .val (.field 0 (.t 2)), none⟩,
  ⟨some 15, .val (.load1 (.t 14)), none⟩,
  ⟨some 16, .val (.field 1 (.t 2)), none⟩,
  ⟨some 17, .val (.load1 (.t 16)), none⟩,
  ⟨some 18, .val (.mov (.t 5)), none⟩,
  ⟨some 19, .val (.bin .add true (.t 17) (.t 18)), none⟩,
  ⟨some 20, .val (.field 0 (.t 2)), none⟩,
  ⟨some 21, .val (.load1 (.t 20)), none⟩,
  ⟨some 22, .val (.lenS (.t 21)), none⟩,
  ⟨some 23, .val (.bin .rem true (.t 19) (.t 22)), none⟩,
  ⟨some 24, .val (.ixS 3 (.t 15) (.t 23)), none⟩,
  ⟨some 25, .val (.loadA 3 (.t 24)), none⟩,
  ⟨some 6, .alloc 3 [.int .i64 0, .int .i64 0, .bool false], none⟩,
  ⟨none, .stA true 3 (.t 6) (.t 25), none⟩]
/- ref.go:33 -/
def ref09_first_r5 : List AOper := [
  ⟨some 26, .val (.field 1 (.t 6)), none⟩,
  ⟨some 27, .val (.load1 (.t 26)), none⟩,
  ⟨some 28, .val (.bin .eql false (.t 27) (.k (.int .i64 0))), none⟩,
  ⟨some 29, .val (.mov (.t 28)), none⟩,
  ⟨some 30, .val (.mov (.t 1)), some (29, true)⟩,
  ⟨some 31, .val (.mov (.t 30)), some (29, true)⟩,
  ⟨some 32, .val (.field 2 (.t 6)), some (31, false)⟩,
  ⟨some 33, .val (.load1 (.t 32)), some (31, false)⟩,
  ⟨some 34, .val (.not (.t 33)), some (31, false)⟩,
  ⟨some 35, .val (.por (.t 31) (.t 34)), some (29, true)⟩,
  ⟨some 36, .val (.pand (.t 29) (.t 35)), none⟩]
/- ref.go:34 -/
def ref09_first_r6 : List AOper := [
  ⟨some 37, .val (.mov (.t 5)), none⟩,
  ⟨some 4, .val (.mov (.t 37)), none⟩]
/- ref.go:31 -/
def ref09_first_r3 : List AOper := [
  ⟨some 12, .val (.mov (.t 5)), none⟩,
  ⟨some 13, .val (.bin .add true (.t 12) (.k (.int .i64 1))), none⟩,
  ⟨some 5, .val (.mov (.t 13)), none⟩]
/- ref.go:37 -/
def ref09_first_r7 : List AOper := [
  ⟨some 4, .val (.mov (.k (.int .i64 (-1)))), none⟩]
def ref09_first_c : ACode :=
  (.seq
    (.reg ref09_first_r0 (some ([1, 2], [2])))
    (.seq
      (.seq
        (.reg ref09_first_r1 (some ([1, 2, 5], [2])))
        (.block 0
          (.loop
            (.seq
              (.seq
                (.reg ref09_first_r2 (some ([1, 2, 5, 11], [2])))
                (.cond (.t 11)
                  .skip
                  (.exit 0)))
              (.seq
                (.block 1
                  (.seq
                    (.regD ref09_first_r4 [(0, 12), (1, 12), (2, 12), (3, 12), (4, 12), (5, 12), (6, 12), (7, 12), (8, 12), (9, 12), (10, 12), (11, 12)] (some ([1, 2, 5, 6], [2, 6])))
                    (.seq
                      (.reg ref09_first_r5 (some ([1, 2, 5, 36], [2])))
                      (.cond (.t 36)
                        (.seq
                          (.reg ref09_first_r6 (some ([4], [])))
                          .ret)
                        .skip))))
                (.reg ref09_first_r3 (some ([1, 2, 5], [2]))))))))
      (.seq
        (.reg ref09_first_r7 (some ([4], [])))
        .ret)))
def ref09_first_k (P : Program) (F : Nat → Nat) : Prop := chkFn P (F 16) 2 (ref09_first_c) [4] = true

/- slices.IndexFunc[[]lockkeeper/clock.Frame,lockkeeper/clock.Frame] : names 0 s, 1 f, 2 s, 3 f, 5 i uns [] -/
/- slices.go:107 -/
def sl_IndexFunc_clock_Frame_r0 : List AOper := [
  ⟨some 4, .val (.mov (.k (.int .i64 0))), none⟩]
/- slices.go:108 -/
def sl_IndexFunc_clock_Frame_r1 : List AOper := [
  ⟨some 6, .val (.mov (.t 0)), none⟩,
  ⟨some 7, .val (.lenS (.t 6)), none⟩,
  ⟨some 8, .val (.mov (.k (.int .i64 0))), none⟩]
/- slices.go:108 -/
def sl_IndexFunc_clock_Frame_r2 : List AOper := [
  ⟨some 9, .val (.bin .lss false (.t 8) (.t 7)), none⟩]
/- slices.go:108 -/
def sl_IndexFunc_clock_Frame_r3 : List AOper := [
  ⟨some 10, .val (.mov (.t 8)), none⟩,
  ⟨some 5, .val (.mov (.t 10)), none⟩]
/- slices.go:109 -/
def sl_IndexFunc_clock_Frame_r4 : List AOper := [
  ⟨some 11, .val (.mov (.t 1)), none⟩,
  ⟨some 12, .val (.mov (.t 0)), none⟩,
  ⟨some 13, .val (.mov (.t 5)), none⟩,
  ⟨some 14, .val (.ixS 3 (.t 12) (.t 13)), none⟩,
  ⟨some 15, .val (.loadA 3 (.t 14)), none⟩,
  ⟨some 16, .callv (.t 11) [(.t 15)], none⟩]
/- slices.go:110 -/
def sl_IndexFunc_clock_Frame_r5 : List AOper := [
  ⟨some 17, .val (.mov (.t 5)), none⟩,
  ⟨some 4, .val (.mov (.t 17)), none⟩]
/- slices.go:108 -/
def sl_IndexFunc_clock_Frame_r6 : List AOper := [
  ⟨some 18, .val (.bin .add true (.t 8) (.k (.int .i64 1))), none⟩,
  ⟨some 8, .val (.mov (.t 18)), none⟩]
/- slices.go:113 -/
def sl_IndexFunc_clock_Frame_r7 : List AOper := [
  ⟨some 4, .val (.mov (.k (.int .i64 (-1)))), none⟩]
def sl_IndexFunc_clock_Frame_c : ACode :=
  (.seq
    (.reg sl_IndexFunc_clock_Frame_r0 (some ([0, 1], [])))
    (.seq
      (.seq
        (.reg sl_IndexFunc_clock_Frame_r1 (some ([0, 1, 7, 8], [])))
        (.block 0
          (.loop
            (.seq
              (.reg sl_IndexFunc_clock_Frame_r2 (some ([0, 1, 7, 8, 9], [])))
              (.seq
                (.cond (.t 9)
                  .skip
                  (.exit 0))
                (.seq
                  (.block 1
                    (.seq
                      (.reg sl_IndexFunc_clock_Frame_r3 (some ([0, 1, 5, 7, 8], [])))
                      (.seq
                        (.reg sl_IndexFunc_clock_Frame_r4 (some ([0, 1, 5, 7, 8, 16], [])))
                        (.cond (.t 16)
                          (.seq
                            (.reg sl_IndexFunc_clock_Frame_r5 (some ([4], [])))
                            .ret)
                          .skip))))
                  (.reg sl_IndexFunc_clock_Frame_r6 (some ([0, 1, 7, 8], [])))))))))
      (.seq
        (.reg sl_IndexFunc_clock_Frame_r7 (some ([4], [])))
        .ret)))
def sl_IndexFunc_clock_Frame_k (P : Program) (F : Nat → Nat) : Prop := chkFn P (F 17) 2 (sl_IndexFunc_clock_Frame_c) [4] = true

end Lk.C
