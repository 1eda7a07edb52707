/-
  The code of chapter 1's functions, as the abstract machine's.
-/
import Derived.Test.YtbfhhfbblnkdhaaLk25
namespace Lk.S01
open Go Lk
/- 3 lockkeeper/lockkeeperlaw01.SumTable ntmps 45 res ['.slot 2'] uns [] -/
/- law.go:17 -/
def c3_r0 : List AOper := [
  ⟨some 2, .val (.mov (.k (.bool false))), none⟩]
/- law.go:18 -/
def c3_r1 : List AOper := [
  ⟨some 8, .val (.mov (.t 0)), none⟩,
  ⟨some 9, .val (.lenT (.t 8)), none⟩,
  ⟨some 10, .val (.bin .gtr false (.t 9) (.k (.int .i64 300))), none⟩]
/- law.go:19 -/
def c3_r2 : List AOper := [
  ⟨some 11, .call 8 [], none⟩,
  ⟨some 2, .val (.mov (.t 11)), none⟩]
/- law.go:21 -/
def c3_r3 : List AOper := [
  ⟨some 12, .call 9 [], none⟩,
  ⟨some 3, .val (.mov (.t 12)), none⟩]
/- law.go:22 -/
def c3_r4 : List AOper := [
  ⟨some 13, .val (.mov (.t 3)), none⟩,
  ⟨some 14, .val (.lenS (.t 13)), none⟩,
  ⟨some 15, .val (.bin .neq false (.t 14) (.k (.int .i64 256))), none⟩]
/- law.go:23 -/
def c3_r5 : List AOper := [
  ⟨some 2, .val (.mov (.k (.bool false))), none⟩]
/- law.go:25 -/
def c3_r6 : List AOper := [
  ⟨some 16, .val (.mov (.t 3)), none⟩,
  ⟨some 17, .val (.lenS (.t 16)), none⟩,
  ⟨some 18, .val (.mov (.k (.int .i64 0))), none⟩]
/- law.go:25 -/
def c3_r7 : List AOper := [
  ⟨some 19, .val (.bin .lss false (.t 18) (.t 17)), none⟩]
/- law.go:25 -/
def c3_r8 : List AOper := [
  ⟨some 20, .val (.mov (.t 18)), none⟩,
  ⟨some 21, .val (.ixS 1 (.t 16) (.t 18)), none⟩,
  ⟨some 22, .val (.load1 (.t 21)), none⟩,
  ⟨some 4, .val (.mov (.t 20)), none⟩,
  ⟨some 5, .val (.mov (.t 22)), none⟩]
/- law.go:26 -/
def c3_r9 : List AOper := [
  ⟨some 23, .val (.mov (.t 5)), none⟩,
  ⟨some 24, .val (.mov (.t 4)), none⟩,
  ⟨some 25, .call 10 [(.t 24)], none⟩,
  ⟨some 26, .val (.conv true .i64 (.t 25)), none⟩,
  ⟨some 27, .val (.bin .neq false (.t 23) (.t 26)), none⟩]
/- law.go:27 -/
def c3_r10 : List AOper := [
  ⟨some 2, .val (.mov (.k (.bool false))), none⟩]
/- law.go:25 -/
def c3_r11 : List AOper := [
  ⟨some 28, .val (.bin .add true (.t 18) (.k (.int .i64 1))), none⟩,
  ⟨some 18, .val (.mov (.t 28)), none⟩]
/- law.go:30 -/
def c3_r12 : List AOper := [
  ⟨some 30, .val (.mov (.t 3)), none⟩,
  ⟨some 31, .val (.mov (.t 0)), none⟩,
  ⟨some 32, .call 11 [(.t 30), (.t 31)], none⟩,
  ⟨some 29, .val (.mov (.t 32)), none⟩,
  ⟨some 33, .val (.extr 0 (.t 29)), none⟩,
  ⟨some 34, .val (.extr 1 (.t 29)), none⟩,
  ⟨some 6, .val (.mov (.t 33)), none⟩,
  ⟨some 7, .val (.mov (.t 34)), none⟩]
/- law.go:31 -/
def c3_r13 : List AOper := [
  ⟨some 35, .val (.mov (.t 6)), none⟩,
  ⟨some 36, .val (.mov (.t 0)), none⟩,
  ⟨some 37, .call 12 [(.t 36)], none⟩,
  ⟨some 38, .val (.bin .eql false (.t 35) (.t 37)), none⟩,
  ⟨some 39, .val (.mov (.t 38)), none⟩,
  ⟨some 40, .val (.mov (.t 7)), some (39, true)⟩,
  ⟨some 41, .val (.pand (.t 39) (.t 40)), none⟩,
  ⟨some 42, .val (.mov (.t 41)), none⟩,
  ⟨some 43, .call 8 [], some (42, true)⟩,
  ⟨some 44, .val (.pand (.t 42) (.t 43)), none⟩,
  ⟨some 2, .val (.mov (.t 44)), none⟩]
def c3 : ACode :=
  (.seq
    (.reg c3_r0 (some ([0], [])))
    (.seq
      (.seq
        (.reg c3_r1 (some ([0, 10], [])))
        (.cond (.t 10)
          (.seq
            (.reg c3_r2 (some ([2], [])))
            .ret)
          .skip))
      (.seq
        (.reg c3_r3 (some ([0, 3], [])))
        (.seq
          (.seq
            (.reg c3_r4 (some ([0, 3, 15], [])))
            (.cond (.t 15)
              (.seq
                (.reg c3_r5 (some ([2], [])))
                .ret)
              .skip))
          (.seq
            (.seq
              (.reg c3_r6 (some ([0, 3, 16, 17, 18], [])))
              (.block 0
                (.loop
                  (.seq
                    (.reg c3_r7 (some ([0, 3, 16, 17, 18, 19], [])))
                    (.seq
                      (.cond (.t 19)
                        .skip
                        (.exit 0))
                      (.seq
                        (.block 1
                          (.seq
                            (.reg c3_r8 (some ([0, 3, 4, 5, 16, 17, 18], [])))
                            (.seq
                              (.reg c3_r9 (some ([0, 3, 16, 17, 18, 27], [])))
                              (.cond (.t 27)
                                (.seq
                                  (.reg c3_r10 (some ([2], [])))
                                  .ret)
                                .skip))))
                        (.reg c3_r11 (some ([0, 3, 16, 17, 18], [])))))))))
            (.seq
              (.reg c3_r12 (some ([0, 6, 7], [])))
              (.seq
                (.reg c3_r13 (some ([2], [])))
                .ret)))))))

/- 4 lockkeeper/lockkeeperlaw01.SumBit ntmps 70 res ['.slot 6'] uns [] -/
/- law.go:47 -/
def c4_r0 : List AOper := [
  ⟨some 6, .val (.mov (.k (.bool false))), none⟩]
/- law.go:48 -/
def c4_r1 : List AOper := [
  ⟨some 13, .val (.mov (.t 0)), none⟩,
  ⟨some 14, .val (.bin .eql false (.t 13) (.k (.str []))), none⟩,
  ⟨some 15, .val (.mov (.t 14)), none⟩,
  ⟨some 16, .val (.mov (.t 0)), some (15, false)⟩,
  ⟨some 17, .val (.lenT (.t 16)), some (15, false)⟩,
  ⟨some 18, .val (.bin .gtr false (.t 17) (.k (.int .i64 300))), some (15, false)⟩,
  ⟨some 19, .val (.por (.t 15) (.t 18)), none⟩]
/- law.go:49 -/
def c4_r2 : List AOper := [
  ⟨some 20, .call 8 [], none⟩,
  ⟨some 6, .val (.mov (.t 20)), none⟩]
/- law.go:51 -/
def c4_r3 : List AOper := [
  ⟨some 21, .val (.mov (.t 0)), none⟩,
  ⟨some 22, .s2b (.t 21), none⟩,
  ⟨some 7, .val (.mov (.t 22)), none⟩]
/- law.go:52 -/
def c4_r4 : List AOper := [
  ⟨some 23, .val (.mov (.t 7)), none⟩,
  ⟨some 24, .val (.mov (.t 1)), none⟩,
  ⟨some 25, .val (.conv true .i64 (.t 24)), none⟩,
  ⟨some 26, .val (.mov (.t 7)), none⟩,
  ⟨some 27, .val (.lenS (.t 26)), none⟩,
  ⟨some 28, .val (.bin .rem true (.t 25) (.t 27)), none⟩,
  ⟨some 29, .val (.ixS 1 (.t 23) (.t 28)), none⟩,
  ⟨some 30, .val (.load1 (.t 29)), none⟩,
  ⟨some 31, .val (.mov (.t 2)), none⟩,
  ⟨some 32, .val (.bin .rem true (.t 31) (.k (.int .u8 8))), none⟩,
  ⟨some 33, .val (.bin .shl false (.k (.int .u8 1)) (.t 32)), none⟩,
  ⟨some 34, .val (.bin .xor false (.t 30) (.t 33)), none⟩,
  ⟨some 35, .val (.ixS 1 (.t 23) (.t 28)), none⟩,
  ⟨none, .st1 false (.t 35) (.t 34), none⟩]
/- law.go:53 -/
def c4_r5 : List AOper := [
  ⟨some 36, .call 9 [], none⟩,
  ⟨some 8, .val (.mov (.t 36)), none⟩]
/- law.go:54 -/
def c4_r6 : List AOper := [
  ⟨some 38, .val (.mov (.t 8)), none⟩,
  ⟨some 39, .val (.mov (.t 0)), none⟩,
  ⟨some 40, .call 11 [(.t 38), (.t 39)], none⟩,
  ⟨some 37, .val (.mov (.t 40)), none⟩,
  ⟨some 41, .val (.extr 0 (.t 37)), none⟩,
  ⟨some 42, .val (.extr 1 (.t 37)), none⟩,
  ⟨some 9, .val (.mov (.t 41)), none⟩,
  ⟨some 10, .val (.mov (.t 42)), none⟩]
/- law.go:55 -/
def c4_r7 : List AOper := [
  ⟨some 44, .val (.mov (.t 8)), none⟩,
  ⟨some 45, .val (.mov (.t 7)), none⟩,
  ⟨some 46, .val (.b2s (.t 45)), none⟩,
  ⟨some 47, .call 11 [(.t 44), (.t 46)], none⟩,
  ⟨some 43, .val (.mov (.t 47)), none⟩,
  ⟨some 48, .val (.extr 0 (.t 43)), none⟩,
  ⟨some 49, .val (.extr 1 (.t 43)), none⟩,
  ⟨some 11, .val (.mov (.t 48)), none⟩,
  ⟨some 12, .val (.mov (.t 49)), none⟩]
/- law.go:56 -/
def c4_r8 : List AOper := [
  ⟨some 50, .val (.mov (.t 9)), none⟩,
  ⟨some 51, .val (.mov (.t 11)), none⟩,
  ⟨some 52, .val (.bin .neq false (.t 50) (.t 51)), none⟩,
  ⟨some 53, .val (.mov (.t 52)), none⟩,
  ⟨some 54, .val (.mov (.t 10)), some (53, true)⟩,
  ⟨some 55, .val (.pand (.t 53) (.t 54)), none⟩,
  ⟨some 56, .val (.mov (.t 55)), none⟩,
  ⟨some 57, .val (.mov (.t 12)), some (56, true)⟩,
  ⟨some 58, .val (.pand (.t 56) (.t 57)), none⟩,
  ⟨some 59, .val (.mov (.t 58)), none⟩,
  ⟨some 60, .val (.mov (.t 9)), some (59, true)⟩,
  ⟨some 61, .val (.bin .geq false (.t 60) (.k (.int .i64 0))), some (59, true)⟩,
  ⟨some 62, .val (.pand (.t 59) (.t 61)), none⟩,
  ⟨some 63, .val (.mov (.t 62)), none⟩,
  ⟨some 64, .val (.mov (.t 9)), some (63, true)⟩,
  ⟨some 65, .val (.bin .lss false (.t 64) (.k (.int .i64 4294967296))), some (63, true)⟩,
  ⟨some 66, .val (.pand (.t 63) (.t 65)), none⟩,
  ⟨some 67, .val (.mov (.t 66)), none⟩,
  ⟨some 68, .call 8 [], some (67, true)⟩,
  ⟨some 69, .val (.pand (.t 67) (.t 68)), none⟩,
  ⟨some 6, .val (.mov (.t 69)), none⟩]
def c4 : ACode :=
  (.seq
    (.reg c4_r0 (some ([0, 1, 2], [22])))
    (.seq
      (.seq
        (.reg c4_r1 (some ([0, 1, 2, 19], [22])))
        (.cond (.t 19)
          (.seq
            (.reg c4_r2 (some ([6], [22])))
            .ret)
          .skip))
      (.seq
        (.reg c4_r3 (some ([0, 1, 2, 7], [22])))
        (.seq
          (.reg c4_r4 (some ([0, 7], [22])))
          (.seq
            (.reg c4_r5 (some ([0, 7, 8], [22])))
            (.seq
              (.reg c4_r6 (some ([7, 8, 9, 10], [22])))
              (.seq
                (.reg c4_r7 (some ([9, 10, 11, 12], [22])))
                (.seq
                  (.reg c4_r8 (some ([6], [22])))
                  .ret))))))))

/- 5 lockkeeper/lockkeeperlaw01.SumThree ntmps 108 res ['.slot 6'] uns [] -/
/- law.go:60 -/
def c5_r0 : List AOper := [
  ⟨some 6, .val (.mov (.k (.bool false))), none⟩]
/- law.go:61 -/
def c5_r1 : List AOper := [
  ⟨some 22, .val (.mov (.t 0)), none⟩,
  ⟨some 23, .val (.lenT (.t 22)), none⟩,
  ⟨some 24, .val (.mov (.t 1)), none⟩,
  ⟨some 25, .val (.lenT (.t 24)), none⟩,
  ⟨some 26, .val (.mov (.t 2)), none⟩,
  ⟨some 27, .val (.lenT (.t 26)), none⟩,
  ⟨some 28, .val (.mm false (.t 23) [(.t 25), (.t 27), (.k (.int .i64 300))]), none⟩,
  ⟨some 7, .val (.mov (.t 28)), none⟩]
/- law.go:62 DRAWS -/
def c5_r2 : List AOper := [
  ⟨some 29, .val (.mov (.t 0)), none⟩,
  ⟨some 30, .val (.mov (.t 7)), none⟩,
  ⟨some 31, .val (.slT (.t 29) none (some (.t 30))), none⟩,
  ⟨some 32, .val (.mov (.t 1)), none⟩,
  ⟨some 33, .val (.mov (.t 7)), none⟩,
  ⟨some 34, .val (.slT (.t 32) none (some (.t 33))), none⟩,
  ⟨some 35, .val (.mov (.t 2)), none⟩,
  ⟨some 36, .val (.mov (.t 7)), none⟩,
  ⟨some 37, .val (.slT (.t 35) none (some (.t 36))), none⟩,
  ⟨some 8, .val (.mov (.t 31)), none⟩,
  ⟨some 9, .val (.mov (.t 34)), none⟩,
  ⟨some 10, .val (.mov (.t 37)), none⟩]
/- law.go:63 -/
def c5_r3 : List AOper := [
  ⟨some 38, .val (.mov (.t 7)), none⟩,
  ⟨some 39, .mk 1 1 [.int .u8 0] (.t 38), none⟩,
  ⟨some 11, .val (.mov (.t 39)), none⟩]
/- law.go:64 -/
def c5_r4 : List AOper := [
  ⟨some 40, .val (.mov (.t 11)), none⟩,
  ⟨some 41, .val (.lenS (.t 40)), none⟩,
  ⟨some 42, .val (.mov (.k (.int .i64 0))), none⟩]
/- law.go:64 -/
def c5_r5 : List AOper := [
  ⟨some 43, .val (.bin .lss false (.t 42) (.t 41)), none⟩]
/- law.go:64 -/
def c5_r6 : List AOper := [
  ⟨some 44, .val (.mov (.t 42)), none⟩,
  ⟨some 12, .val (.mov (.t 44)), none⟩]
/- law.go:65 DRAWS -/
def c5_r7 : List AOper := [
  ⟨some 45, .val (.mov (.t 11)), none⟩,
  ⟨some 46, .val (.mov (.t 12)), none⟩,
  ⟨some 47, .val (.mov (.t 8)), none⟩,
  ⟨some 48, .val (.mov (.t 12)), none⟩,
  ⟨some 49, .val (.idx (.t 47) (.t 48)), none⟩,
  ⟨some 50, .val (.mov (.t 9)), none⟩,
  ⟨some 51, .val (.mov (.t 12)), none⟩,
  ⟨some 52, .val (.idx (.t 50) (.t 51)), none⟩,
  ⟨some 53, .val (.bin .xor false (.t 49) (.t 52)), none⟩,
  ⟨some 54, .val (.mov (.t 10)), none⟩,
  ⟨some 55, .val (.mov (.t 12)), none⟩,
  ⟨some 56, .val (.idx (.t 54) (.t 55)), none⟩,
  ⟨some 57, .val (.bin .xor false (.t 53) (.t 56)), none⟩,
  ⟨some 58, .val (.ixS 1 (.t 45) (.t 46)), none⟩,
  ⟨none, .st1 false (.t 58) (.t 57), none⟩]
/- law.go:64 -/
def c5_r8 : List AOper := [
  ⟨some 59, .val (.bin .add true (.t 42) (.k (.int .i64 1))), none⟩,
  ⟨some 42, .val (.mov (.t 59)), none⟩]
/- law.go:67 -/
def c5_r9 : List AOper := [
  ⟨some 60, .call 9 [], none⟩,
  ⟨some 13, .val (.mov (.t 60)), none⟩]
/- law.go:68 -/
def c5_r10 : List AOper := [
  ⟨some 62, .val (.mov (.t 13)), none⟩,
  ⟨some 63, .val (.mov (.t 8)), none⟩,
  ⟨some 64, .call 11 [(.t 62), (.t 63)], none⟩,
  ⟨some 61, .val (.mov (.t 64)), none⟩,
  ⟨some 65, .val (.extr 0 (.t 61)), none⟩,
  ⟨some 66, .val (.extr 1 (.t 61)), none⟩,
  ⟨some 14, .val (.mov (.t 65)), none⟩,
  ⟨some 15, .val (.mov (.t 66)), none⟩]
/- law.go:69 -/
def c5_r11 : List AOper := [
  ⟨some 68, .val (.mov (.t 13)), none⟩,
  ⟨some 69, .val (.mov (.t 9)), none⟩,
  ⟨some 70, .call 11 [(.t 68), (.t 69)], none⟩,
  ⟨some 67, .val (.mov (.t 70)), none⟩,
  ⟨some 71, .val (.extr 0 (.t 67)), none⟩,
  ⟨some 72, .val (.extr 1 (.t 67)), none⟩,
  ⟨some 16, .val (.mov (.t 71)), none⟩,
  ⟨some 17, .val (.mov (.t 72)), none⟩]
/- law.go:70 -/
def c5_r12 : List AOper := [
  ⟨some 74, .val (.mov (.t 13)), none⟩,
  ⟨some 75, .val (.mov (.t 10)), none⟩,
  ⟨some 76, .call 11 [(.t 74), (.t 75)], none⟩,
  ⟨some 73, .val (.mov (.t 76)), none⟩,
  ⟨some 77, .val (.extr 0 (.t 73)), none⟩,
  ⟨some 78, .val (.extr 1 (.t 73)), none⟩,
  ⟨some 18, .val (.mov (.t 77)), none⟩,
  ⟨some 19, .val (.mov (.t 78)), none⟩]
/- law.go:71 -/
def c5_r13 : List AOper := [
  ⟨some 80, .val (.mov (.t 13)), none⟩,
  ⟨some 81, .val (.mov (.t 11)), none⟩,
  ⟨some 82, .val (.b2s (.t 81)), none⟩,
  ⟨some 83, .call 11 [(.t 80), (.t 82)], none⟩,
  ⟨some 79, .val (.mov (.t 83)), none⟩,
  ⟨some 84, .val (.extr 0 (.t 79)), none⟩,
  ⟨some 85, .val (.extr 1 (.t 79)), none⟩,
  ⟨some 20, .val (.mov (.t 84)), none⟩,
  ⟨some 21, .val (.mov (.t 85)), none⟩]
/- law.go:72 -/
def c5_r14 : List AOper := [
  ⟨some 86, .val (.mov (.t 14)), none⟩,
  ⟨some 87, .val (.mov (.t 16)), none⟩,
  ⟨some 88, .val (.bin .xor false (.t 86) (.t 87)), none⟩,
  ⟨some 89, .val (.mov (.t 18)), none⟩,
  ⟨some 90, .val (.bin .xor false (.t 88) (.t 89)), none⟩,
  ⟨some 91, .val (.mov (.t 20)), none⟩,
  ⟨some 92, .val (.bin .eql false (.t 90) (.t 91)), none⟩,
  ⟨some 93, .val (.mov (.t 92)), none⟩,
  ⟨some 94, .val (.mov (.t 15)), some (93, true)⟩,
  ⟨some 95, .val (.pand (.t 93) (.t 94)), none⟩,
  ⟨some 96, .val (.mov (.t 95)), none⟩,
  ⟨some 97, .val (.mov (.t 17)), some (96, true)⟩,
  ⟨some 98, .val (.pand (.t 96) (.t 97)), none⟩,
  ⟨some 99, .val (.mov (.t 98)), none⟩,
  ⟨some 100, .val (.mov (.t 19)), some (99, true)⟩,
  ⟨some 101, .val (.pand (.t 99) (.t 100)), none⟩,
  ⟨some 102, .val (.mov (.t 101)), none⟩,
  ⟨some 103, .val (.mov (.t 21)), some (102, true)⟩,
  ⟨some 104, .val (.pand (.t 102) (.t 103)), none⟩,
  ⟨some 105, .val (.mov (.t 104)), none⟩,
  ⟨some 106, .call 8 [], some (105, true)⟩,
  ⟨some 107, .val (.pand (.t 105) (.t 106)), none⟩,
  ⟨some 6, .val (.mov (.t 107)), none⟩]
def c5 : ACode :=
  (.seq
    (.reg c5_r0 (some ([0, 1, 2], [39])))
    (.seq
      (.reg c5_r1 (some ([0, 1, 2, 7], [39])))
      (.seq
        (.regD c5_r2 [] (some ([7, 8, 9, 10], [39])))
        (.seq
          (.reg c5_r3 (some ([8, 9, 10, 11], [39])))
          (.seq
            (.seq
              (.reg c5_r4 (some ([8, 9, 10, 11, 41, 42], [39])))
              (.block 0
                (.loop
                  (.seq
                    (.reg c5_r5 (some ([8, 9, 10, 11, 41, 42, 43], [39])))
                    (.seq
                      (.cond (.t 43)
                        .skip
                        (.exit 0))
                      (.seq
                        (.block 1
                          (.seq
                            (.reg c5_r6 (some ([8, 9, 10, 11, 12, 41, 42], [39])))
                            (.regD c5_r7 [] (some ([8, 9, 10, 11, 41, 42], [39])))))
                        (.reg c5_r8 (some ([8, 9, 10, 11, 41, 42], [39])))))))))
            (.seq
              (.reg c5_r9 (some ([8, 9, 10, 11, 13], [39])))
              (.seq
                (.reg c5_r10 (some ([9, 10, 11, 13, 14, 15], [39])))
                (.seq
                  (.reg c5_r11 (some ([10, 11, 13, 14, 15, 16, 17], [39])))
                  (.seq
                    (.reg c5_r12 (some ([11, 13, 14, 15, 16, 17, 18, 19], [39])))
                    (.seq
                      (.reg c5_r13 (some ([14, 15, 16, 17, 18, 19, 20, 21], [39])))
                      (.seq
                        (.reg c5_r14 (some ([6], [39])))
                        .ret)))))))))))

/- 6 lockkeeper/lockkeeperlaw01.SumNought ntmps 41 res ['.slot 2'] uns [] -/
/- law.go:76 -/
def c6_r0 : List AOper := [
  ⟨some 2, .val (.mov (.k (.bool false))), none⟩]
/- law.go:77 -/
def c6_r1 : List AOper := [
  ⟨some 7, .val (.mov (.t 0)), none⟩,
  ⟨some 8, .val (.lenT (.t 7)), none⟩,
  ⟨some 9, .val (.bin .gtr false (.t 8) (.k (.int .i64 300))), none⟩]
/- law.go:78 -/
def c6_r2 : List AOper := [
  ⟨some 10, .call 8 [], none⟩,
  ⟨some 2, .val (.mov (.t 10)), none⟩]
/- law.go:80 -/
def c6_r3 : List AOper := [
  ⟨some 3, .val (.mov (.k (.int .i64 0))), none⟩]
/- law.go:81 -/
def c6_r4 : List AOper := [
  ⟨some 11, .val (.mov (.k (.int .i64 0))), none⟩]
/- law.go:81 -/
def c6_r5 : List AOper := [
  ⟨some 12, .val (.bin .lss false (.t 11) (.k (.int .i64 32))), none⟩]
/- law.go:81 -/
def c6_r6 : List AOper := [
  ⟨some 13, .val (.mov (.t 11)), none⟩,
  ⟨some 4, .val (.mov (.t 13)), none⟩]
/- law.go:82 -/
def c6_r7 : List AOper := [
  ⟨some 14, .val (.mov (.t 4)), none⟩,
  ⟨some 15, .val (.mov (.t 0)), none⟩,
  ⟨some 16, .val (.lenT (.t 15)), none⟩,
  ⟨some 17, .val (.mm false (.t 16) [(.k (.int .i64 4))]), none⟩,
  ⟨some 18, .val (.bin .mul true (.k (.int .i64 8)) (.t 17)), none⟩,
  ⟨some 19, .val (.bin .sub true (.k (.int .i64 32)) (.t 18)), none⟩,
  ⟨some 20, .val (.bin .geq false (.t 14) (.t 19)), none⟩]
/- law.go:83 -/
def c6_r8 : List AOper := [
  ⟨some 21, .val (.mov (.t 3)), none⟩,
  ⟨some 22, .val (.mov (.t 4)), none⟩,
  ⟨some 23, .val (.bin .shl false (.k (.int .i64 1)) (.t 22)), none⟩,
  ⟨some 24, .val (.bin .or false (.t 21) (.t 23)), none⟩,
  ⟨some 3, .val (.mov (.t 24)), none⟩]
/- law.go:81 -/
def c6_r9 : List AOper := [
  ⟨some 25, .val (.bin .add true (.t 11) (.k (.int .i64 1))), none⟩,
  ⟨some 11, .val (.mov (.t 25)), none⟩]
/- law.go:86 -/
def c6_r10 : List AOper := [
  ⟨some 27, .mk 1 8 [.int .i64 0] (.k (.int .i64 256)), none⟩,
  ⟨some 28, .val (.mov (.t 0)), none⟩,
  ⟨some 29, .call 11 [(.t 27), (.t 28)], none⟩,
  ⟨some 26, .val (.mov (.t 29)), none⟩,
  ⟨some 30, .val (.extr 0 (.t 26)), none⟩,
  ⟨some 31, .val (.extr 1 (.t 26)), none⟩,
  ⟨some 5, .val (.mov (.t 30)), none⟩,
  ⟨some 6, .val (.mov (.t 31)), none⟩]
/- law.go:87 -/
def c6_r11 : List AOper := [
  ⟨some 32, .val (.mov (.t 5)), none⟩,
  ⟨some 33, .val (.mov (.t 3)), none⟩,
  ⟨some 34, .val (.bin .eql false (.t 32) (.t 33)), none⟩,
  ⟨some 35, .val (.mov (.t 34)), none⟩,
  ⟨some 36, .val (.mov (.t 6)), some (35, true)⟩,
  ⟨some 37, .val (.pand (.t 35) (.t 36)), none⟩,
  ⟨some 38, .val (.mov (.t 37)), none⟩,
  ⟨some 39, .call 8 [], some (38, true)⟩,
  ⟨some 40, .val (.pand (.t 38) (.t 39)), none⟩,
  ⟨some 2, .val (.mov (.t 40)), none⟩]
def c6 : ACode :=
  (.seq
    (.reg c6_r0 (some ([0], [27])))
    (.seq
      (.seq
        (.reg c6_r1 (some ([0, 9], [27])))
        (.cond (.t 9)
          (.seq
            (.reg c6_r2 (some ([2], [27])))
            .ret)
          .skip))
      (.seq
        (.reg c6_r3 (some ([0, 3], [27])))
        (.seq
          (.seq
            (.reg c6_r4 (some ([0, 3, 11], [27])))
            (.block 0
              (.loop
                (.seq
                  (.reg c6_r5 (some ([0, 3, 11, 12], [27])))
                  (.seq
                    (.cond (.t 12)
                      .skip
                      (.exit 0))
                    (.seq
                      (.block 1
                        (.seq
                          (.reg c6_r6 (some ([0, 3, 4, 11], [27])))
                          (.seq
                            (.reg c6_r7 (some ([0, 3, 4, 11, 20], [27])))
                            (.cond (.t 20)
                              (.reg c6_r8 (some ([0, 3, 11], [27])))
                              .skip))))
                      (.reg c6_r9 (some ([0, 3, 11], [27])))))))))
          (.seq
            (.reg c6_r10 (some ([3, 5, 6], [27])))
            (.seq
              (.reg c6_r11 (some ([2], [27])))
              .ret))))))

/- 7 lockkeeper/lockkeeperlaw01.SumLast ntmps 53 res ['.slot 6'] uns [] -/
/- law.go:91 -/
def c7_r0 : List AOper := [
  ⟨some 6, .val (.mov (.k (.bool false))), none⟩]
/- law.go:92 -/
def c7_r1 : List AOper := [
  ⟨some 12, .val (.mov (.t 0)), none⟩,
  ⟨some 13, .val (.lenT (.t 12)), none⟩,
  ⟨some 14, .val (.bin .gtr false (.t 13) (.k (.int .i64 300))), none⟩]
/- law.go:93 -/
def c7_r2 : List AOper := [
  ⟨some 15, .call 8 [], none⟩,
  ⟨some 6, .val (.mov (.t 15)), none⟩]
/- law.go:95 -/
def c7_r3 : List AOper := [
  ⟨some 16, .call 9 [], none⟩,
  ⟨some 7, .val (.mov (.t 16)), none⟩]
/- law.go:96 -/
def c7_r4 : List AOper := [
  ⟨some 18, .val (.mov (.t 7)), none⟩,
  ⟨some 19, .val (.mov (.t 0)), none⟩,
  ⟨some 20, .val (.mov (.t 1)), none⟩,
  ⟨some 21, .buildS 1 1 [.int .u8 0] [(0, (.t 20))], none⟩,
  ⟨some 22, .val (.b2s (.t 21)), none⟩,
  ⟨some 23, .val (.bin .add false (.t 19) (.t 22)), none⟩,
  ⟨some 24, .call 11 [(.t 18), (.t 23)], none⟩,
  ⟨some 17, .val (.mov (.t 24)), none⟩,
  ⟨some 25, .val (.extr 0 (.t 17)), none⟩,
  ⟨some 26, .val (.extr 1 (.t 17)), none⟩,
  ⟨some 8, .val (.mov (.t 25)), none⟩,
  ⟨some 9, .val (.mov (.t 26)), none⟩]
/- law.go:97 -/
def c7_r5 : List AOper := [
  ⟨some 28, .val (.mov (.t 7)), none⟩,
  ⟨some 29, .val (.mov (.t 0)), none⟩,
  ⟨some 30, .val (.mov (.t 2)), none⟩,
  ⟨some 31, .buildS 1 1 [.int .u8 0] [(0, (.t 30))], none⟩,
  ⟨some 32, .val (.b2s (.t 31)), none⟩,
  ⟨some 33, .val (.bin .add false (.t 29) (.t 32)), none⟩,
  ⟨some 34, .call 11 [(.t 28), (.t 33)], none⟩,
  ⟨some 27, .val (.mov (.t 34)), none⟩,
  ⟨some 35, .val (.extr 0 (.t 27)), none⟩,
  ⟨some 36, .val (.extr 1 (.t 27)), none⟩,
  ⟨some 10, .val (.mov (.t 35)), none⟩,
  ⟨some 11, .val (.mov (.t 36)), none⟩]
/- law.go:98 -/
def c7_r6 : List AOper := [
  ⟨some 37, .val (.mov (.t 9)), none⟩,
  ⟨some 38, .val (.mov (.t 37)), none⟩,
  ⟨some 39, .val (.mov (.t 11)), some (38, true)⟩,
  ⟨some 40, .val (.pand (.t 38) (.t 39)), none⟩,
  ⟨some 41, .val (.mov (.t 40)), none⟩,
  ⟨some 42, .val (.mov (.t 8)), some (41, true)⟩,
  ⟨some 43, .val (.mov (.t 10)), some (41, true)⟩,
  ⟨some 44, .val (.bin .eql false (.t 42) (.t 43)), some (41, true)⟩,
  ⟨some 45, .val (.mov (.t 1)), some (41, true)⟩,
  ⟨some 46, .val (.mov (.t 2)), some (41, true)⟩,
  ⟨some 47, .val (.bin .eql false (.t 45) (.t 46)), some (41, true)⟩,
  ⟨some 48, .val (.eqB false (.t 44) (.t 47)), some (41, true)⟩,
  ⟨some 49, .val (.pand (.t 41) (.t 48)), none⟩,
  ⟨some 50, .val (.mov (.t 49)), none⟩,
  ⟨some 51, .call 8 [], some (50, true)⟩,
  ⟨some 52, .val (.pand (.t 50) (.t 51)), none⟩,
  ⟨some 6, .val (.mov (.t 52)), none⟩]
def c7 : ACode :=
  (.seq
    (.reg c7_r0 (some ([0, 1, 2], [21, 31])))
    (.seq
      (.seq
        (.reg c7_r1 (some ([0, 1, 2, 14], [21, 31])))
        (.cond (.t 14)
          (.seq
            (.reg c7_r2 (some ([6], [21, 31])))
            .ret)
          .skip))
      (.seq
        (.reg c7_r3 (some ([0, 1, 2, 7], [21, 31])))
        (.seq
          (.reg c7_r4 (some ([0, 1, 2, 7, 8, 9], [21, 31])))
          (.seq
            (.reg c7_r5 (some ([1, 2, 8, 9, 10, 11], [21, 31])))
            (.seq
              (.reg c7_r6 (some ([6], [21, 31])))
              .ret))))))

/- 8 lockkeeper/lockkeeperlaw01.awake ntmps 23 res ['.slot 0'] uns [] -/
/- law.go:10 -/
def c8_r0 : List AOper := [
  ⟨some 0, .val (.mov (.k (.bool false))), none⟩]
/- law.go:11 -/
def c8_r1 : List AOper := [
  ⟨some 6, .call 9 [], none⟩,
  ⟨some 7, .call 11 [(.t 6), (.k (.str [49, 50, 51, 52, 53, 54, 55, 56, 57]))], none⟩,
  ⟨some 5, .val (.mov (.t 7)), none⟩,
  ⟨some 8, .val (.extr 0 (.t 5)), none⟩,
  ⟨some 9, .val (.extr 1 (.t 5)), none⟩,
  ⟨some 1, .val (.mov (.t 8)), none⟩,
  ⟨some 2, .val (.mov (.t 9)), none⟩]
/- law.go:12 -/
def c8_r2 : List AOper := [
  ⟨some 11, .call 11 [(.k (.nil 1)), (.k (.str [97]))], none⟩,
  ⟨some 10, .val (.mov (.t 11)), none⟩,
  ⟨some 12, .val (.extr 0 (.t 10)), none⟩,
  ⟨some 13, .val (.extr 1 (.t 10)), none⟩,
  ⟨some 3, .val (.mov (.t 12)), none⟩,
  ⟨some 4, .val (.mov (.t 13)), none⟩]
/- law.go:13 -/
def c8_r3 : List AOper := [
  ⟨some 14, .val (.mov (.t 1)), none⟩,
  ⟨some 15, .val (.bin .eql false (.t 14) (.k (.int .i64 3421780262))), none⟩,
  ⟨some 16, .val (.mov (.t 15)), none⟩,
  ⟨some 17, .val (.mov (.t 2)), some (16, true)⟩,
  ⟨some 18, .val (.pand (.t 16) (.t 17)), none⟩,
  ⟨some 19, .val (.mov (.t 18)), none⟩,
  ⟨some 20, .val (.mov (.t 4)), some (19, true)⟩,
  ⟨some 21, .val (.not (.t 20)), some (19, true)⟩,
  ⟨some 22, .val (.pand (.t 19) (.t 21)), none⟩,
  ⟨some 0, .val (.mov (.t 22)), none⟩]
def c8 : ACode :=
  (.seq
    (.reg c8_r0 (some ([], [])))
    (.seq
      (.reg c8_r1 (some ([1, 2], [])))
      (.seq
        (.reg c8_r2 (some ([1, 2, 4], [])))
        (.seq
          (.reg c8_r3 (some ([0], [])))
          .ret))))

/- 9 lockkeeper/sum.Table ntmps 31 res ['.slot 0'] uns [] -/
/- sum.go:11 -/
def c9_r0 : List AOper := [
  ⟨some 0, .val (.mov (.k (.nil 1))), none⟩]
/- sum.go:12 -/
def c9_r1 : List AOper := [
  ⟨some 5, .mk 1 8 [.int .i64 0] (.k (.int .i64 256)), none⟩,
  ⟨some 1, .val (.mov (.t 5)), none⟩]
/- sum.go:13 -/
def c9_r2 : List AOper := [
  ⟨some 6, .val (.mov (.t 1)), none⟩,
  ⟨some 7, .val (.lenS (.t 6)), none⟩,
  ⟨some 8, .val (.mov (.k (.int .i64 0))), none⟩]
/- sum.go:13 -/
def c9_r3 : List AOper := [
  ⟨some 9, .val (.bin .lss false (.t 8) (.t 7)), none⟩]
/- sum.go:13 -/
def c9_r4 : List AOper := [
  ⟨some 10, .val (.mov (.t 8)), none⟩,
  ⟨some 2, .val (.mov (.t 10)), none⟩]
/- sum.go:14 -/
def c9_r5 : List AOper := [
  ⟨some 11, .val (.mov (.t 2)), none⟩,
  ⟨some 12, .val (.conv false .u32 (.t 11)), none⟩,
  ⟨some 3, .val (.mov (.t 12)), none⟩]
/- sum.go:15 -/
def c9_r6 : List AOper := [
  ⟨some 13, .val (.mov (.k (.int .i64 0))), none⟩]
/- sum.go:15 -/
def c9_r7 : List AOper := [
  ⟨some 14, .val (.bin .lss false (.t 13) (.k (.int .i64 8))), none⟩]
/- sum.go:16 -/
def c9_r8 : List AOper := [
  ⟨some 15, .val (.mov (.t 3)), none⟩,
  ⟨some 16, .val (.bin .and false (.t 15) (.k (.int .u32 1))), none⟩,
  ⟨some 17, .val (.bin .eql false (.t 16) (.k (.int .u32 1))), none⟩,
  ⟨some 4, .val (.mov (.t 17)), none⟩]
/- sum.go:17 -/
def c9_r9 : List AOper := [
  ⟨some 18, .val (.mov (.t 3)), none⟩,
  ⟨some 19, .val (.bin .shr false (.t 18) (.k (.int .u64 1))), none⟩,
  ⟨some 3, .val (.mov (.t 19)), none⟩]
/- sum.go:18 -/
def c9_r10 : List AOper := [
  ⟨some 20, .val (.mov (.t 4)), none⟩]
/- sum.go:19 -/
def c9_r11 : List AOper := [
  ⟨some 21, .val (.mov (.t 3)), none⟩,
  ⟨some 22, .val (.bin .xor false (.t 21) (.k (.int .u32 3988292384))), none⟩,
  ⟨some 3, .val (.mov (.t 22)), none⟩]
/- sum.go:15 -/
def c9_r12 : List AOper := [
  ⟨some 23, .val (.bin .add true (.t 13) (.k (.int .i64 1))), none⟩,
  ⟨some 13, .val (.mov (.t 23)), none⟩]
/- sum.go:22 -/
def c9_r13 : List AOper := [
  ⟨some 24, .val (.mov (.t 1)), none⟩,
  ⟨some 25, .val (.mov (.t 2)), none⟩,
  ⟨some 26, .val (.mov (.t 3)), none⟩,
  ⟨some 27, .val (.conv true .i64 (.t 26)), none⟩,
  ⟨some 28, .val (.ixS 1 (.t 24) (.t 25)), none⟩,
  ⟨none, .st1 false (.t 28) (.t 27), none⟩]
/- sum.go:13 -/
def c9_r14 : List AOper := [
  ⟨some 29, .val (.bin .add true (.t 8) (.k (.int .i64 1))), none⟩,
  ⟨some 8, .val (.mov (.t 29)), none⟩]
/- sum.go:24 -/
def c9_r15 : List AOper := [
  ⟨some 30, .val (.mov (.t 1)), none⟩,
  ⟨some 0, .val (.mov (.t 30)), none⟩]
def c9 : ACode :=
  (.seq
    (.reg c9_r0 (some ([], [5])))
    (.seq
      (.reg c9_r1 (some ([1], [5])))
      (.seq
        (.seq
          (.reg c9_r2 (some ([1, 7, 8], [5])))
          (.block 0
            (.loop
              (.seq
                (.reg c9_r3 (some ([1, 7, 8, 9], [5])))
                (.seq
                  (.cond (.t 9)
                    .skip
                    (.exit 0))
                  (.seq
                    (.block 1
                      (.seq
                        (.reg c9_r4 (some ([1, 2, 7, 8], [5])))
                        (.seq
                          (.reg c9_r5 (some ([1, 2, 3, 7, 8], [5])))
                          (.seq
                            (.seq
                              (.reg c9_r6 (some ([1, 2, 3, 7, 8, 13], [5])))
                              (.block 2
                                (.loop
                                  (.seq
                                    (.reg c9_r7 (some ([1, 2, 3, 7, 8, 13, 14], [5])))
                                    (.seq
                                      (.cond (.t 14)
                                        .skip
                                        (.exit 2))
                                      (.seq
                                        (.block 3
                                          (.seq
                                            (.reg c9_r8 (some ([1, 2, 3, 4, 7, 8, 13], [5])))
                                            (.seq
                                              (.reg c9_r9 (some ([1, 2, 3, 4, 7, 8, 13], [5])))
                                              (.seq
                                                (.reg c9_r10 (some ([1, 2, 3, 7, 8, 13, 20], [5])))
                                                (.cond (.t 20)
                                                  (.reg c9_r11 (some ([1, 2, 3, 7, 8, 13], [5])))
                                                  .skip)))))
                                        (.reg c9_r12 (some ([1, 2, 3, 7, 8, 13], [5])))))))))
                            (.reg c9_r13 (some ([1, 7, 8], [5])))))))
                    (.reg c9_r14 (some ([1, 7, 8], [5])))))))))
        (.seq
          (.reg c9_r15 (some ([0], [5])))
          .ret))))

/- 10 lockkeeper/lockkeeperref01.Entry ntmps 20 res ['.slot 2'] uns [] -/
/- ref.go:5 -/
def c10_r0 : List AOper := [
  ⟨some 2, .val (.mov (.k (.int .u32 0))), none⟩]
/- ref.go:6 -/
def c10_r1 : List AOper := [
  ⟨some 5, .val (.mov (.t 0)), none⟩,
  ⟨some 6, .val (.conv false .u32 (.t 5)), none⟩,
  ⟨some 3, .val (.mov (.t 6)), none⟩]
/- ref.go:7 -/
def c10_r2 : List AOper := [
  ⟨some 4, .val (.mov (.k (.int .i64 0))), none⟩]
/- ref.go:7 -/
def c10_r3 : List AOper := [
  ⟨some 7, .val (.mov (.t 4)), none⟩,
  ⟨some 8, .val (.bin .lss false (.t 7) (.k (.int .i64 8))), none⟩]
/- ref.go:8 -/
def c10_r5 : List AOper := [
  ⟨some 11, .val (.mov (.t 3)), none⟩,
  ⟨some 12, .val (.bin .rem true (.t 11) (.k (.int .u32 2))), none⟩,
  ⟨some 13, .val (.bin .eql false (.t 12) (.k (.int .u32 1))), none⟩]
/- ref.go:9 -/
def c10_r6 : List AOper := [
  ⟨some 14, .val (.mov (.t 3)), none⟩,
  ⟨some 15, .val (.bin .quo true (.t 14) (.k (.int .u32 2))), none⟩,
  ⟨some 16, .val (.bin .xor false (.t 15) (.k (.int .u32 3988292384))), none⟩,
  ⟨some 3, .val (.mov (.t 16)), none⟩]
/- ref.go:11 -/
def c10_r7 : List AOper := [
  ⟨some 17, .val (.mov (.t 3)), none⟩,
  ⟨some 18, .val (.bin .quo true (.t 17) (.k (.int .u32 2))), none⟩,
  ⟨some 3, .val (.mov (.t 18)), none⟩]
/- ref.go:7 -/
def c10_r4 : List AOper := [
  ⟨some 9, .val (.mov (.t 4)), none⟩,
  ⟨some 10, .val (.bin .add true (.t 9) (.k (.int .i64 1))), none⟩,
  ⟨some 4, .val (.mov (.t 10)), none⟩]
/- ref.go:14 -/
def c10_r8 : List AOper := [
  ⟨some 19, .val (.mov (.t 3)), none⟩,
  ⟨some 2, .val (.mov (.t 19)), none⟩]
def c10 : ACode :=
  (.seq
    (.reg c10_r0 (some ([0], [])))
    (.seq
      (.reg c10_r1 (some ([3], [])))
      (.seq
        (.seq
          (.reg c10_r2 (some ([3, 4], [])))
          (.block 0
            (.loop
              (.seq
                (.seq
                  (.reg c10_r3 (some ([3, 4, 8], [])))
                  (.cond (.t 8)
                    .skip
                    (.exit 0)))
                (.seq
                  (.block 1
                    (.seq
                      (.reg c10_r5 (some ([3, 4, 13], [])))
                      (.cond (.t 13)
                        (.reg c10_r6 (some ([3, 4], [])))
                        (.reg c10_r7 (some ([3, 4], []))))))
                  (.reg c10_r4 (some ([3, 4], []))))))))
        (.seq
          (.reg c10_r8 (some ([2], [])))
          .ret))))

/- 11 lockkeeper/sum.Sum ntmps 35 res ['.slot 4', '.slot 5'] uns [] -/
/- sum.go:28 -/
def c11_r0 : List AOper := [
  ⟨some 4, .val (.mov (.k (.int .i64 0))), none⟩,
  ⟨some 5, .val (.mov (.k (.bool false))), none⟩]
/- sum.go:29 -/
def c11_r1 : List AOper := [
  ⟨some 9, .val (.mov (.t 0)), none⟩,
  ⟨some 10, .val (.lenS (.t 9)), none⟩,
  ⟨some 11, .val (.bin .neq false (.t 10) (.k (.int .i64 256))), none⟩]
/- sum.go:30 -/
def c11_r2 : List AOper := [
  ⟨some 4, .val (.mov (.k (.int .i64 0))), none⟩,
  ⟨some 5, .val (.mov (.k (.bool false))), none⟩]
/- sum.go:32 -/
def c11_r3 : List AOper := [
  ⟨some 6, .val (.mov (.k (.int .u32 4294967295))), none⟩]
/- sum.go:33 -/
def c11_r4 : List AOper := [
  ⟨some 7, .val (.mov (.k (.int .i64 0))), none⟩]
/- sum.go:33 -/
def c11_r5 : List AOper := [
  ⟨some 12, .val (.mov (.t 7)), none⟩,
  ⟨some 13, .val (.mov (.t 1)), none⟩,
  ⟨some 14, .val (.lenT (.t 13)), none⟩,
  ⟨some 15, .val (.bin .lss false (.t 12) (.t 14)), none⟩]
/- sum.go:34 -/
def c11_r7 : List AOper := [
  ⟨some 18, .val (.mov (.t 0)), none⟩,
  ⟨some 19, .val (.mov (.t 6)), none⟩,
  ⟨some 20, .val (.conv false .u8 (.t 19)), none⟩,
  ⟨some 21, .val (.mov (.t 1)), none⟩,
  ⟨some 22, .val (.mov (.t 7)), none⟩,
  ⟨some 23, .val (.idx (.t 21) (.t 22)), none⟩,
  ⟨some 24, .val (.bin .xor false (.t 20) (.t 23)), none⟩,
  ⟨some 25, .val (.ixS 1 (.t 18) (.t 24)), none⟩,
  ⟨some 26, .val (.load1 (.t 25)), none⟩,
  ⟨some 27, .val (.conv false .u32 (.t 26)), none⟩,
  ⟨some 8, .val (.mov (.t 27)), none⟩]
/- sum.go:35 -/
def c11_r8 : List AOper := [
  ⟨some 28, .val (.mov (.t 8)), none⟩,
  ⟨some 29, .val (.mov (.t 6)), none⟩,
  ⟨some 30, .val (.bin .shr false (.t 29) (.k (.int .u64 8))), none⟩,
  ⟨some 31, .val (.bin .xor false (.t 28) (.t 30)), none⟩,
  ⟨some 6, .val (.mov (.t 31)), none⟩]
/- sum.go:33 -/
def c11_r6 : List AOper := [
  ⟨some 16, .val (.mov (.t 7)), none⟩,
  ⟨some 17, .val (.bin .add true (.t 16) (.k (.int .i64 1))), none⟩,
  ⟨some 7, .val (.mov (.t 17)), none⟩]
/- sum.go:37 -/
def c11_r9 : List AOper := [
  ⟨some 32, .val (.mov (.t 6)), none⟩,
  ⟨some 33, .val (.com (.t 32)), none⟩,
  ⟨some 34, .val (.conv true .i64 (.t 33)), none⟩,
  ⟨some 4, .val (.mov (.t 34)), none⟩,
  ⟨some 5, .val (.mov (.k (.bool true))), none⟩]
def c11 : ACode :=
  (.seq
    (.reg c11_r0 (some ([0, 1], [])))
    (.seq
      (.seq
        (.reg c11_r1 (some ([0, 1, 11], [])))
        (.cond (.t 11)
          (.seq
            (.reg c11_r2 (some ([4, 5], [])))
            .ret)
          .skip))
      (.seq
        (.reg c11_r3 (some ([0, 1, 6], [])))
        (.seq
          (.seq
            (.reg c11_r4 (some ([0, 1, 6, 7], [])))
            (.block 0
              (.loop
                (.seq
                  (.seq
                    (.reg c11_r5 (some ([0, 1, 6, 7, 15], [])))
                    (.cond (.t 15)
                      .skip
                      (.exit 0)))
                  (.seq
                    (.block 1
                      (.seq
                        (.reg c11_r7 (some ([0, 1, 6, 7, 8], [])))
                        (.reg c11_r8 (some ([0, 1, 6, 7], [])))))
                    (.reg c11_r6 (some ([0, 1, 6, 7], []))))))))
          (.seq
            (.reg c11_r9 (some ([4, 5], [])))
            .ret)))))

/- 12 lockkeeper/lockkeeperref01.Sum ntmps 33 res ['.slot 2'] uns [] -/
/- ref.go:27 -/
def c12_r0 : List AOper := [
  ⟨some 2, .val (.mov (.k (.int .i64 0))), none⟩]
/- ref.go:28 -/
def c12_r1 : List AOper := [
  ⟨some 3, .val (.mov (.k (.int .u32 4294967295))), none⟩]
/- ref.go:29 -/
def c12_r2 : List AOper := [
  ⟨some 4, .val (.mov (.k (.int .i64 0))), none⟩]
/- ref.go:29 -/
def c12_r3 : List AOper := [
  ⟨some 6, .val (.mov (.t 4)), none⟩,
  ⟨some 7, .val (.mov (.t 0)), none⟩,
  ⟨some 8, .val (.lenT (.t 7)), none⟩,
  ⟨some 9, .val (.bin .lss false (.t 6) (.t 8)), none⟩]
/- ref.go:30 -/
def c12_r5 : List AOper := [
  ⟨some 12, .val (.mov (.t 3)), none⟩,
  ⟨some 13, .val (.mov (.t 0)), none⟩,
  ⟨some 14, .val (.mov (.t 4)), none⟩,
  ⟨some 15, .val (.idx (.t 13) (.t 14)), none⟩,
  ⟨some 16, .val (.conv true .u32 (.t 15)), none⟩,
  ⟨some 17, .val (.bin .xor false (.t 12) (.t 16)), none⟩,
  ⟨some 3, .val (.mov (.t 17)), none⟩]
/- ref.go:31 -/
def c12_r6 : List AOper := [
  ⟨some 5, .val (.mov (.k (.int .i64 0))), none⟩]
/- ref.go:31 -/
def c12_r7 : List AOper := [
  ⟨some 18, .val (.mov (.t 5)), none⟩,
  ⟨some 19, .val (.bin .lss false (.t 18) (.k (.int .i64 8))), none⟩]
/- ref.go:32 -/
def c12_r9 : List AOper := [
  ⟨some 22, .val (.mov (.t 3)), none⟩,
  ⟨some 23, .val (.bin .rem true (.t 22) (.k (.int .u32 2))), none⟩,
  ⟨some 24, .val (.bin .eql false (.t 23) (.k (.int .u32 1))), none⟩]
/- ref.go:33 -/
def c12_r10 : List AOper := [
  ⟨some 25, .val (.mov (.t 3)), none⟩,
  ⟨some 26, .val (.bin .quo true (.t 25) (.k (.int .u32 2))), none⟩,
  ⟨some 27, .val (.bin .xor false (.t 26) (.k (.int .u32 3988292384))), none⟩,
  ⟨some 3, .val (.mov (.t 27)), none⟩]
/- ref.go:35 -/
def c12_r11 : List AOper := [
  ⟨some 28, .val (.mov (.t 3)), none⟩,
  ⟨some 29, .val (.bin .quo true (.t 28) (.k (.int .u32 2))), none⟩,
  ⟨some 3, .val (.mov (.t 29)), none⟩]
/- ref.go:31 -/
def c12_r8 : List AOper := [
  ⟨some 20, .val (.mov (.t 5)), none⟩,
  ⟨some 21, .val (.bin .add true (.t 20) (.k (.int .i64 1))), none⟩,
  ⟨some 5, .val (.mov (.t 21)), none⟩]
/- ref.go:29 -/
def c12_r4 : List AOper := [
  ⟨some 10, .val (.mov (.t 4)), none⟩,
  ⟨some 11, .val (.bin .add true (.t 10) (.k (.int .i64 1))), none⟩,
  ⟨some 4, .val (.mov (.t 11)), none⟩]
/- ref.go:39 -/
def c12_r12 : List AOper := [
  ⟨some 30, .val (.mov (.t 3)), none⟩,
  ⟨some 31, .val (.com (.t 30)), none⟩,
  ⟨some 32, .val (.conv true .i64 (.t 31)), none⟩,
  ⟨some 2, .val (.mov (.t 32)), none⟩]
def c12 : ACode :=
  (.seq
    (.reg c12_r0 (some ([0], [])))
    (.seq
      (.reg c12_r1 (some ([0, 3], [])))
      (.seq
        (.seq
          (.reg c12_r2 (some ([0, 3, 4], [])))
          (.block 0
            (.loop
              (.seq
                (.seq
                  (.reg c12_r3 (some ([0, 3, 4, 9], [])))
                  (.cond (.t 9)
                    .skip
                    (.exit 0)))
                (.seq
                  (.block 1
                    (.seq
                      (.reg c12_r5 (some ([0, 3, 4], [])))
                      (.seq
                        (.reg c12_r6 (some ([0, 3, 4, 5], [])))
                        (.block 2
                          (.loop
                            (.seq
                              (.seq
                                (.reg c12_r7 (some ([0, 3, 4, 5, 19], [])))
                                (.cond (.t 19)
                                  .skip
                                  (.exit 2)))
                              (.seq
                                (.block 3
                                  (.seq
                                    (.reg c12_r9 (some ([0, 3, 4, 5, 24], [])))
                                    (.cond (.t 24)
                                      (.reg c12_r10 (some ([0, 3, 4, 5], [])))
                                      (.reg c12_r11 (some ([0, 3, 4, 5], []))))))
                                (.reg c12_r8 (some ([0, 3, 4, 5], []))))))))))
                  (.reg c12_r4 (some ([0, 3, 4], []))))))))
        (.seq
          (.reg c12_r12 (some ([2], [])))
          .ret))))


end Lk.S01
