/-
  The code of functions, as the abstract machine's, over any numbering F of the program's functions.
-/
import Derived.Test.YtbjlbloncjfbhaaLkC
namespace Lk.C
open Go Lk
/- lockkeeper/lockkeeperlaw01.SumTable : names 0 s, 1 s, 3 t, 4 i, 5 n, 6 n, 7 ok uns [] -/
/- law.go:17 -/
def law01_SumTable_r0 : List AOper := [
  ⟨some 2, .val (.mov (.k (.bool false))), none⟩]
/- law.go:18 -/
def law01_SumTable_r1 : List AOper := [
  ⟨some 8, .val (.mov (.t 0)), none⟩,
  ⟨some 9, .val (.lenT (.t 8)), none⟩,
  ⟨some 10, .val (.bin .gtr false (.t 9) (.k (.int .i64 300))), none⟩]
/- law.go:19 -/
def law01_SumTable_r2 (F : Nat → Nat) : List AOper := [
  ⟨some 11, .call (F 18) [], none⟩,
  ⟨some 2, .val (.mov (.t 11)), none⟩]
/- law.go:21 -/
def law01_SumTable_r3 (F : Nat → Nat) : List AOper := [
  ⟨some 12, .call (F 19) [], none⟩,
  ⟨some 3, .val (.mov (.t 12)), none⟩]
/- law.go:22 -/
def law01_SumTable_r4 : List AOper := [
  ⟨some 13, .val (.mov (.t 3)), none⟩,
  ⟨some 14, .val (.lenS (.t 13)), none⟩,
  ⟨some 15, .val (.bin .neq false (.t 14) (.k (.int .i64 256))), none⟩]
/- law.go:23 -/
def law01_SumTable_r5 : List AOper := [
  ⟨some 2, .val (.mov (.k (.bool false))), none⟩]
/- law.go:25 -/
def law01_SumTable_r6 : List AOper := [
  ⟨some 16, .val (.mov (.t 3)), none⟩,
  ⟨some 17, .val (.lenS (.t 16)), none⟩,
  ⟨some 18, .val (.mov (.k (.int .i64 0))), none⟩]
/- law.go:25 -/
def law01_SumTable_r7 : List AOper := [
  ⟨some 19, .val (.bin .lss false (.t 18) (.t 17)), none⟩]
/- law.go:25 -/
def law01_SumTable_r8 : List AOper := [
  ⟨some 20, .val (.mov (.t 18)), none⟩,
  ⟨some 21, .val (.ixS 1 (.t 16) (.t 18)), none⟩,
  ⟨some 22, .val (.load1 (.t 21)), none⟩,
  ⟨some 4, .val (.mov (.t 20)), none⟩,
  ⟨some 5, .val (.mov (.t 22)), none⟩]
/- law.go:26 -/
def law01_SumTable_r9 (F : Nat → Nat) : List AOper := [
  ⟨some 23, .val (.mov (.t 5)), none⟩,
  ⟨some 24, .val (.mov (.t 4)), none⟩,
  ⟨some 25, .call (F 20) [(.t 24)], none⟩,
  ⟨some 26, .val (.conv true .i64 (.t 25)), none⟩,
  ⟨some 27, .val (.bin .neq false (.t 23) (.t 26)), none⟩]
/- law.go:27 -/
def law01_SumTable_r10 : List AOper := [
  ⟨some 2, .val (.mov (.k (.bool false))), none⟩]
/- law.go:25 -/
def law01_SumTable_r11 : List AOper := [
  ⟨some 28, .val (.bin .add true (.t 18) (.k (.int .i64 1))), none⟩,
  ⟨some 18, .val (.mov (.t 28)), none⟩]
/- law.go:30 -/
def law01_SumTable_r12 (F : Nat → Nat) : List AOper := [
  ⟨some 30, .val (.mov (.t 3)), none⟩,
  ⟨some 31, .val (.mov (.t 0)), none⟩,
  ⟨some 32, .call (F 21) [(.t 30), (.t 31)], none⟩,
  ⟨some 29, .val (.mov (.t 32)), none⟩,
  ⟨some 33, .val (.extr 0 (.t 29)), none⟩,
  ⟨some 34, .val (.extr 1 (.t 29)), none⟩,
  ⟨some 6, .val (.mov (.t 33)), none⟩,
  ⟨some 7, .val (.mov (.t 34)), none⟩]
/- law.go:31 -/
def law01_SumTable_r13 (F : Nat → Nat) : List AOper := [
  ⟨some 35, .val (.mov (.t 6)), none⟩,
  ⟨some 36, .val (.mov (.t 0)), none⟩,
  ⟨some 37, .call (F 22) [(.t 36)], none⟩,
  ⟨some 38, .val (.bin .eql false (.t 35) (.t 37)), none⟩,
  ⟨some 39, .val (.mov (.t 38)), none⟩,
  ⟨some 40, .val (.mov (.t 7)), some (39, true)⟩,
  ⟨some 41, .val (.pand (.t 39) (.t 40)), none⟩,
  ⟨some 42, .val (.mov (.t 41)), none⟩,
  ⟨some 43, .call (F 18) [], some (42, true)⟩,
  ⟨some 44, .val (.pand (.t 42) (.t 43)), none⟩,
  ⟨some 2, .val (.mov (.t 44)), none⟩]
def law01_SumTable_c (F : Nat → Nat) : ACode :=
  (.seq
    (.reg law01_SumTable_r0 (some ([0], [])))
    (.seq
      (.seq
        (.reg law01_SumTable_r1 (some ([0, 10], [])))
        (.cond (.t 10)
          (.seq
            (.reg (law01_SumTable_r2 F) (some ([2], [])))
            .ret)
          .skip))
      (.seq
        (.reg (law01_SumTable_r3 F) (some ([0, 3], [])))
        (.seq
          (.seq
            (.reg law01_SumTable_r4 (some ([0, 3, 15], [])))
            (.cond (.t 15)
              (.seq
                (.reg law01_SumTable_r5 (some ([2], [])))
                .ret)
              .skip))
          (.seq
            (.seq
              (.reg law01_SumTable_r6 (some ([0, 3, 16, 17, 18], [])))
              (.block 0
                (.loop
                  (.seq
                    (.reg law01_SumTable_r7 (some ([0, 3, 16, 17, 18, 19], [])))
                    (.seq
                      (.cond (.t 19)
                        .skip
                        (.exit 0))
                      (.seq
                        (.block 1
                          (.seq
                            (.reg law01_SumTable_r8 (some ([0, 3, 4, 5, 16, 17, 18], [])))
                            (.seq
                              (.reg (law01_SumTable_r9 F) (some ([0, 3, 16, 17, 18, 27], [])))
                              (.cond (.t 27)
                                (.seq
                                  (.reg law01_SumTable_r10 (some ([2], [])))
                                  .ret)
                                .skip))))
                        (.reg law01_SumTable_r11 (some ([0, 3, 16, 17, 18], [])))))))))
            (.seq
              (.reg (law01_SumTable_r12 F) (some ([0, 6, 7], [])))
              (.seq
                (.reg (law01_SumTable_r13 F) (some ([2], [])))
                .ret)))))))
def law01_SumTable_k (P : Program) (F : Nat → Nat) : Prop := chkFn P (F 23) 1 (law01_SumTable_c F) [2] = true

/- lockkeeper/lockkeeperlaw01.SumBit : names 0 s, 1 at, 2 bit, 3 s, 4 at, 5 bit, 7 b, 8 t, 9 n, 10 ok, 11 k, 12 is uns [] -/
/- law.go:47 -/
def law01_SumBit_r0 : List AOper := [
  ⟨some 6, .val (.mov (.k (.bool false))), none⟩]
/- law.go:48 -/
def law01_SumBit_r1 : List AOper := [
  ⟨some 13, .val (.mov (.t 0)), none⟩,
  ⟨some 14, .val (.bin .eql false (.t 13) (.k (.str []))), none⟩,
  ⟨some 15, .val (.mov (.t 14)), none⟩,
  ⟨some 16, .val (.mov (.t 0)), some (15, false)⟩,
  ⟨some 17, .val (.lenT (.t 16)), some (15, false)⟩,
  ⟨some 18, .val (.bin .gtr false (.t 17) (.k (.int .i64 300))), some (15, false)⟩,
  ⟨some 19, .val (.por (.t 15) (.t 18)), none⟩]
/- law.go:49 -/
def law01_SumBit_r2 (F : Nat → Nat) : List AOper := [
  ⟨some 20, .call (F 18) [], none⟩,
  ⟨some 6, .val (.mov (.t 20)), none⟩]
/- law.go:51 -/
def law01_SumBit_r3 : List AOper := [
  ⟨some 21, .val (.mov (.t 0)), none⟩,
  ⟨some 22, .s2b (.t 21), none⟩,
  ⟨some 7, .val (.mov (.t 22)), none⟩]
/- law.go:52 -/
def law01_SumBit_r4 : List AOper := [
  ⟨some 23, .val (.mov (.t 7)), none⟩,
  ⟨some 24, .val (.mov (.t 1)), none⟩,
  ⟨some 25, .val (.conv true .i64 (.t 24)), none⟩,
  ⟨some 26, .val (.mov (.t 7)), none⟩,
  ⟨some 27, .val (.lenS (.t 26)), none⟩,
  ⟨some 28, .val (.bin .rem true (.t 25) (.t 27)), none⟩,
  ⟨some 29, .val (.ixS 1 (.t 23) (.t 28)), none⟩,
  ⟨some 30, .val (.load1 (.t 29)), none⟩,
  ⟨some 31, .val (.mov (.t 2)), none⟩,
  ⟨some 32, .val (.bin .rem true (.t 31) (.k (.int .u8 8))), none⟩,
  ⟨some 33, .val (.bin .shl false (.k (.int .u8 1)) (.t 32)), none⟩,
  ⟨some 34, .val (.bin .xor false (.t 30) (.t 33)), none⟩,
  ⟨some 35, .val (.ixS 1 (.t 23) (.t 28)), none⟩,
  ⟨none, .st1 false (.t 35) (.t 34), none⟩]
/- law.go:53 -/
def law01_SumBit_r5 (F : Nat → Nat) : List AOper := [
  ⟨some 36, .call (F 19) [], none⟩,
  ⟨some 8, .val (.mov (.t 36)), none⟩]
/- law.go:54 -/
def law01_SumBit_r6 (F : Nat → Nat) : List AOper := [
  ⟨some 38, .val (.mov (.t 8)), none⟩,
  ⟨some 39, .val (.mov (.t 0)), none⟩,
  ⟨some 40, .call (F 21) [(.t 38), (.t 39)], none⟩,
  ⟨some 37, .val (.mov (.t 40)), none⟩,
  ⟨some 41, .val (.extr 0 (.t 37)), none⟩,
  ⟨some 42, .val (.extr 1 (.t 37)), none⟩,
  ⟨some 9, .val (.mov (.t 41)), none⟩,
  ⟨some 10, .val (.mov (.t 42)), none⟩]
/- law.go:55 -/
def law01_SumBit_r7 (F : Nat → Nat) : List AOper := [
  ⟨some 44, .val (.mov (.t 8)), none⟩,
  ⟨some 45, .val (.mov (.t 7)), none⟩,
  ⟨some 46, .val (.b2s (.t 45)), none⟩,
  ⟨some 47, .call (F 21) [(.t 44), (.t 46)], none⟩,
  ⟨some 43, .val (.mov (.t 47)), none⟩,
  ⟨some 48, .val (.extr 0 (.t 43)), none⟩,
  ⟨some 49, .val (.extr 1 (.t 43)), none⟩,
  ⟨some 11, .val (.mov (.t 48)), none⟩,
  ⟨some 12, .val (.mov (.t 49)), none⟩]
/- law.go:56 -/
def law01_SumBit_r8 (F : Nat → Nat) : List AOper := [
  ⟨some 50, .val (.mov (.t 9)), none⟩,
  ⟨some 51, .val (.mov (.t 11)), none⟩,
  ⟨some 52, .val (.bin .neq false (.t 50) (.t 51)), none⟩,
  ⟨some 53, .val (.mov (.t 52)), none⟩,
  ⟨some 54, .val (.mov (.t 10)), some (53, true)⟩,
  ⟨some 55, .val (.pand (.t 53) (.t 54)), none⟩,
  ⟨some 56, .val (.mov (.t 55)), none⟩,
  ⟨some 57, .val (.mov (.t 12)), some (56, true)⟩,
  ⟨some 58, .val (.pand (.t 56) (.t 57)), none⟩,
  ⟨some 59, .val (.mov (.t 58)), none⟩,
  ⟨some 60, .val (.mov (.t 9)), some (59, true)⟩,
  ⟨some 61, .val (.bin .geq false (.t 60) (.k (.int .i64 0))), some (59, true)⟩,
  ⟨some 62, .val (.pand (.t 59) (.t 61)), none⟩,
  ⟨some 63, .val (.mov (.t 62)), none⟩,
  ⟨some 64, .val (.mov (.t 9)), some (63, true)⟩,
  ⟨some 65, .val (.bin .lss false (.t 64) (.k (.int .i64 4294967296))), some (63, true)⟩,
  ⟨some 66, .val (.pand (.t 63) (.t 65)), none⟩,
  ⟨some 67, .val (.mov (.t 66)), none⟩,
  ⟨some 68, .call (F 18) [], some (67, true)⟩,
  ⟨some 69, .val (.pand (.t 67) (.t 68)), none⟩,
  ⟨some 6, .val (.mov (.t 69)), none⟩]
def law01_SumBit_c (F : Nat → Nat) : ACode :=
  (.seq
    (.reg law01_SumBit_r0 (some ([0, 1, 2], [22])))
    (.seq
      (.seq
        (.reg law01_SumBit_r1 (some ([0, 1, 2, 19], [22])))
        (.cond (.t 19)
          (.seq
            (.reg (law01_SumBit_r2 F) (some ([6], [22])))
            .ret)
          .skip))
      (.seq
        (.reg law01_SumBit_r3 (some ([0, 1, 2, 7], [22])))
        (.seq
          (.reg law01_SumBit_r4 (some ([0, 7], [22])))
          (.seq
            (.reg (law01_SumBit_r5 F) (some ([0, 7, 8], [22])))
            (.seq
              (.reg (law01_SumBit_r6 F) (some ([7, 8, 9, 10], [22])))
              (.seq
                (.reg (law01_SumBit_r7 F) (some ([9, 10, 11, 12], [22])))
                (.seq
                  (.reg (law01_SumBit_r8 F) (some ([6], [22])))
                  .ret))))))))
def law01_SumBit_k (P : Program) (F : Nat → Nat) : Prop := chkFn P (F 24) 3 (law01_SumBit_c F) [6] = true

/- lockkeeper/lockkeeperlaw01.SumThree : names 0 a, 1 b, 2 c, 3 a, 4 b, 5 c, 7 n, 8 x, 9 y, 10 z, 11 all, 12 i, 13 t, 14 p, 15 e, 16 q, 17 f, 18 r, 19 g, 20 s, 21 h uns [] -/
/- law.go:60 -/
def law01_SumThree_r0 : List AOper := [
  ⟨some 6, .val (.mov (.k (.bool false))), none⟩]
/- law.go:61 -/
def law01_SumThree_r1 : List AOper := [
  ⟨some 22, .val (.mov (.t 0)), none⟩,
  ⟨some 23, .val (.lenT (.t 22)), none⟩,
  ⟨some 24, .val (.mov (.t 1)), none⟩,
  ⟨some 25, .val (.lenT (.t 24)), none⟩,
  ⟨some 26, .val (.mov (.t 2)), none⟩,
  ⟨some 27, .val (.lenT (.t 26)), none⟩,
  ⟨some 28, .val (.mm false (.t 23) [(.t 25), (.t 27), (.k (.int .i64 300))]), none⟩,
  ⟨some 7, .val (.mov (.t 28)), none⟩]
/- law.go:62 DRAWS -/
def law01_SumThree_r2 : List AOper := [
  ⟨some 29, .val (.mov (.t 0)), none⟩,
  ⟨some 30, .val (.mov (.t 7)), none⟩,
  ⟨some 31, .val (.slT (.t 29) none (some (.t 30))), none⟩,
  ⟨some 32, .val (.mov (.t 1)), none⟩,
  ⟨some 33, .val (.mov (.t 7)), none⟩,
  ⟨some 34, .val (.slT (.t 32) none (some (.t 33))), none⟩,
  ⟨some 35, .val (.mov (.t 2)), none⟩,
  ⟨some 36, .val (.mov (.t 7)), none⟩,
  ⟨some 37, .val (.slT (.t 35) none (some (.t 36))), none⟩,
  ⟨some 8, .val (.mov (.t 31)), none⟩,
  ⟨some 9, .val (.mov (.t 34)), none⟩,
  ⟨some 10, .val (.mov (.t 37)), none⟩]
/- law.go:63 -/
def law01_SumThree_r3 : List AOper := [
  ⟨some 38, .val (.mov (.t 7)), none⟩,
  ⟨some 39, .mk 1 1 [.int .u8 0] (.t 38), none⟩,
  ⟨some 11, .val (.mov (.t 39)), none⟩]
/- law.go:64 -/
def law01_SumThree_r4 : List AOper := [
  ⟨some 40, .val (.mov (.t 11)), none⟩,
  ⟨some 41, .val (.lenS (.t 40)), none⟩,
  ⟨some 42, .val (.mov (.k (.int .i64 0))), none⟩]
/- law.go:64 -/
def law01_SumThree_r5 : List AOper := [
  ⟨some 43, .val (.bin .lss false (.t 42) (.t 41)), none⟩]
/- law.go:64 -/
def law01_SumThree_r6 : List AOper := [
  ⟨some 44, .val (.mov (.t 42)), none⟩,
  ⟨some 12, .val (.mov (.t 44)), none⟩]
/- law.go:65 DRAWS -/
def law01_SumThree_r7 : List AOper := [
  ⟨some 45, .val (.mov (.t 11)), none⟩,
  ⟨some 46, .val (.mov (.t 12)), none⟩,
  ⟨some 47, .val (.mov (.t 8)), none⟩,
  ⟨some 48, .val (.mov (.t 12)), none⟩,
  ⟨some 49, .val (.idx (.t 47) (.t 48)), none⟩,
  ⟨some 50, .val (.mov (.t 9)), none⟩,
  ⟨some 51, .val (.mov (.t 12)), none⟩,
  ⟨some 52, .val (.idx (.t 50) (.t 51)), none⟩,
  ⟨some 53, .val (.bin .xor false (.t 49) (.t 52)), none⟩,
  ⟨some 54, .val (.mov (.t 10)), none⟩,
  ⟨some 55, .val (.mov (.t 12)), none⟩,
  ⟨some 56, .val (.idx (.t 54) (.t 55)), none⟩,
  ⟨some 57, .val (.bin .xor false (.t 53) (.t 56)), none⟩,
  ⟨some 58, .val (.ixS 1 (.t 45) (.t 46)), none⟩,
  ⟨none, .st1 false (.t 58) (.t 57), none⟩]
/- law.go:64 -/
def law01_SumThree_r8 : List AOper := [
  ⟨some 59, .val (.bin .add true (.t 42) (.k (.int .i64 1))), none⟩,
  ⟨some 42, .val (.mov (.t 59)), none⟩]
/- law.go:67 -/
def law01_SumThree_r9 (F : Nat → Nat) : List AOper := [
  ⟨some 60, .call (F 19) [], none⟩,
  ⟨some 13, .val (.mov (.t 60)), none⟩]
/- law.go:68 -/
def law01_SumThree_r10 (F : Nat → Nat) : List AOper := [
  ⟨some 62, .val (.mov (.t 13)), none⟩,
  ⟨some 63, .val (.mov (.t 8)), none⟩,
  ⟨some 64, .call (F 21) [(.t 62), (.t 63)], none⟩,
  ⟨some 61, .val (.mov (.t 64)), none⟩,
  ⟨some 65, .val (.extr 0 (.t 61)), none⟩,
  ⟨some 66, .val (.extr 1 (.t 61)), none⟩,
  ⟨some 14, .val (.mov (.t 65)), none⟩,
  ⟨some 15, .val (.mov (.t 66)), none⟩]
/- law.go:69 -/
def law01_SumThree_r11 (F : Nat → Nat) : List AOper := [
  ⟨some 68, .val (.mov (.t 13)), none⟩,
  ⟨some 69, .val (.mov (.t 9)), none⟩,
  ⟨some 70, .call (F 21) [(.t 68), (.t 69)], none⟩,
  ⟨some 67, .val (.mov (.t 70)), none⟩,
  ⟨some 71, .val (.extr 0 (.t 67)), none⟩,
  ⟨some 72, .val (.extr 1 (.t 67)), none⟩,
  ⟨some 16, .val (.mov (.t 71)), none⟩,
  ⟨some 17, .val (.mov (.t 72)), none⟩]
/- law.go:70 -/
def law01_SumThree_r12 (F : Nat → Nat) : List AOper := [
  ⟨some 74, .val (.mov (.t 13)), none⟩,
  ⟨some 75, .val (.mov (.t 10)), none⟩,
  ⟨some 76, .call (F 21) [(.t 74), (.t 75)], none⟩,
  ⟨some 73, .val (.mov (.t 76)), none⟩,
  ⟨some 77, .val (.extr 0 (.t 73)), none⟩,
  ⟨some 78, .val (.extr 1 (.t 73)), none⟩,
  ⟨some 18, .val (.mov (.t 77)), none⟩,
  ⟨some 19, .val (.mov (.t 78)), none⟩]
/- law.go:71 -/
def law01_SumThree_r13 (F : Nat → Nat) : List AOper := [
  ⟨some 80, .val (.mov (.t 13)), none⟩,
  ⟨some 81, .val (.mov (.t 11)), none⟩,
  ⟨some 82, .val (.b2s (.t 81)), none⟩,
  ⟨some 83, .call (F 21) [(.t 80), (.t 82)], none⟩,
  ⟨some 79, .val (.mov (.t 83)), none⟩,
  ⟨some 84, .val (.extr 0 (.t 79)), none⟩,
  ⟨some 85, .val (.extr 1 (.t 79)), none⟩,
  ⟨some 20, .val (.mov (.t 84)), none⟩,
  ⟨some 21, .val (.mov (.t 85)), none⟩]
/- law.go:72 -/
def law01_SumThree_r14 (F : Nat → Nat) : List AOper := [
  ⟨some 86, .val (.mov (.t 14)), none⟩,
  ⟨some 87, .val (.mov (.t 16)), none⟩,
  ⟨some 88, .val (.bin .xor false (.t 86) (.t 87)), none⟩,
  ⟨some 89, .val (.mov (.t 18)), none⟩,
  ⟨some 90, .val (.bin .xor false (.t 88) (.t 89)), none⟩,
  ⟨some 91, .val (.mov (.t 20)), none⟩,
  ⟨some 92, .val (.bin .eql false (.t 90) (.t 91)), none⟩,
  ⟨some 93, .val (.mov (.t 92)), none⟩,
  ⟨some 94, .val (.mov (.t 15)), some (93, true)⟩,
  ⟨some 95, .val (.pand (.t 93) (.t 94)), none⟩,
  ⟨some 96, .val (.mov (.t 95)), none⟩,
  ⟨some 97, .val (.mov (.t 17)), some (96, true)⟩,
  ⟨some 98, .val (.pand (.t 96) (.t 97)), none⟩,
  ⟨some 99, .val (.mov (.t 98)), none⟩,
  ⟨some 100, .val (.mov (.t 19)), some (99, true)⟩,
  ⟨some 101, .val (.pand (.t 99) (.t 100)), none⟩,
  ⟨some 102, .val (.mov (.t 101)), none⟩,
  ⟨some 103, .val (.mov (.t 21)), some (102, true)⟩,
  ⟨some 104, .val (.pand (.t 102) (.t 103)), none⟩,
  ⟨some 105, .val (.mov (.t 104)), none⟩,
  ⟨some 106, .call (F 18) [], some (105, true)⟩,
  ⟨some 107, .val (.pand (.t 105) (.t 106)), none⟩,
  ⟨some 6, .val (.mov (.t 107)), none⟩]
def law01_SumThree_c (F : Nat → Nat) : ACode :=
  (.seq
    (.reg law01_SumThree_r0 (some ([0, 1, 2], [39])))
    (.seq
      (.reg law01_SumThree_r1 (some ([0, 1, 2, 7], [39])))
      (.seq
        (.regD law01_SumThree_r2 [] (some ([7, 8, 9, 10], [39])))
        (.seq
          (.reg law01_SumThree_r3 (some ([8, 9, 10, 11], [39])))
          (.seq
            (.seq
              (.reg law01_SumThree_r4 (some ([8, 9, 10, 11, 41, 42], [39])))
              (.block 0
                (.loop
                  (.seq
                    (.reg law01_SumThree_r5 (some ([8, 9, 10, 11, 41, 42, 43], [39])))
                    (.seq
                      (.cond (.t 43)
                        .skip
                        (.exit 0))
                      (.seq
                        (.block 1
                          (.seq
                            (.reg law01_SumThree_r6 (some ([8, 9, 10, 11, 12, 41, 42], [39])))
                            (.regD law01_SumThree_r7 [] (some ([8, 9, 10, 11, 41, 42], [39])))))
                        (.reg law01_SumThree_r8 (some ([8, 9, 10, 11, 41, 42], [39])))))))))
            (.seq
              (.reg (law01_SumThree_r9 F) (some ([8, 9, 10, 11, 13], [39])))
              (.seq
                (.reg (law01_SumThree_r10 F) (some ([9, 10, 11, 13, 14, 15], [39])))
                (.seq
                  (.reg (law01_SumThree_r11 F) (some ([10, 11, 13, 14, 15, 16, 17], [39])))
                  (.seq
                    (.reg (law01_SumThree_r12 F) (some ([11, 13, 14, 15, 16, 17, 18, 19], [39])))
                    (.seq
                      (.reg (law01_SumThree_r13 F) (some ([14, 15, 16, 17, 18, 19, 20, 21], [39])))
                      (.seq
                        (.reg (law01_SumThree_r14 F) (some ([6], [39])))
                        .ret)))))))))))
def law01_SumThree_k (P : Program) (F : Nat → Nat) : Prop := chkFn P (F 25) 3 (law01_SumThree_c F) [6] = true

/- lockkeeper/lockkeeperlaw01.SumNought : names 0 s, 1 s, 3 want, 4 i, 5 n, 6 ok uns [] -/
/- law.go:76 -/
def law01_SumNought_r0 : List AOper := [
  ⟨some 2, .val (.mov (.k (.bool false))), none⟩]
/- law.go:77 -/
def law01_SumNought_r1 : List AOper := [
  ⟨some 7, .val (.mov (.t 0)), none⟩,
  ⟨some 8, .val (.lenT (.t 7)), none⟩,
  ⟨some 9, .val (.bin .gtr false (.t 8) (.k (.int .i64 300))), none⟩]
/- law.go:78 -/
def law01_SumNought_r2 (F : Nat → Nat) : List AOper := [
  ⟨some 10, .call (F 18) [], none⟩,
  ⟨some 2, .val (.mov (.t 10)), none⟩]
/- law.go:80 -/
def law01_SumNought_r3 : List AOper := [
  ⟨some 3, .val (.mov (.k (.int .i64 0))), none⟩]
/- law.go:81 -/
def law01_SumNought_r4 : List AOper := [
  ⟨some 11, .val (.mov (.k (.int .i64 0))), none⟩]
/- law.go:81 -/
def law01_SumNought_r5 : List AOper := [
  ⟨some 12, .val (.bin .lss false (.t 11) (.k (.int .i64 32))), none⟩]
/- law.go:81 -/
def law01_SumNought_r6 : List AOper := [
  ⟨some 13, .val (.mov (.t 11)), none⟩,
  ⟨some 4, .val (.mov (.t 13)), none⟩]
/- law.go:82 -/
def law01_SumNought_r7 : List AOper := [
  ⟨some 14, .val (.mov (.t 4)), none⟩,
  ⟨some 15, .val (.mov (.t 0)), none⟩,
  ⟨some 16, .val (.lenT (.t 15)), none⟩,
  ⟨some 17, .val (.mm false (.t 16) [(.k (.int .i64 4))]), none⟩,
  ⟨some 18, .val (.bin .mul true (.k (.int .i64 8)) (.t 17)), none⟩,
  ⟨some 19, .val (.bin .sub true (.k (.int .i64 32)) (.t 18)), none⟩,
  ⟨some 20, .val (.bin .geq false (.t 14) (.t 19)), none⟩]
/- law.go:83 -/
def law01_SumNought_r8 : List AOper := [
  ⟨some 21, .val (.mov (.t 3)), none⟩,
  ⟨some 22, .val (.mov (.t 4)), none⟩,
  ⟨some 23, .val (.bin .shl false (.k (.int .i64 1)) (.t 22)), none⟩,
  ⟨some 24, .val (.bin .or false (.t 21) (.t 23)), none⟩,
  ⟨some 3, .val (.mov (.t 24)), none⟩]
/- law.go:81 -/
def law01_SumNought_r9 : List AOper := [
  ⟨some 25, .val (.bin .add true (.t 11) (.k (.int .i64 1))), none⟩,
  ⟨some 11, .val (.mov (.t 25)), none⟩]
/- law.go:86 -/
def law01_SumNought_r10 (F : Nat → Nat) : List AOper := [
  ⟨some 27, .mk 1 8 [.int .i64 0] (.k (.int .i64 256)), none⟩,
  ⟨some 28, .val (.mov (.t 0)), none⟩,
  ⟨some 29, .call (F 21) [(.t 27), (.t 28)], none⟩,
  ⟨some 26, .val (.mov (.t 29)), none⟩,
  ⟨some 30, .val (.extr 0 (.t 26)), none⟩,
  ⟨some 31, .val (.extr 1 (.t 26)), none⟩,
  ⟨some 5, .val (.mov (.t 30)), none⟩,
  ⟨some 6, .val (.mov (.t 31)), none⟩]
/- law.go:87 -/
def law01_SumNought_r11 (F : Nat → Nat) : List AOper := [
  ⟨some 32, .val (.mov (.t 5)), none⟩,
  ⟨some 33, .val (.mov (.t 3)), none⟩,
  ⟨some 34, .val (.bin .eql false (.t 32) (.t 33)), none⟩,
  ⟨some 35, .val (.mov (.t 34)), none⟩,
  ⟨some 36, .val (.mov (.t 6)), some (35, true)⟩,
  ⟨some 37, .val (.pand (.t 35) (.t 36)), none⟩,
  ⟨some 38, .val (.mov (.t 37)), none⟩,
  ⟨some 39, .call (F 18) [], some (38, true)⟩,
  ⟨some 40, .val (.pand (.t 38) (.t 39)), none⟩,
  ⟨some 2, .val (.mov (.t 40)), none⟩]
def law01_SumNought_c (F : Nat → Nat) : ACode :=
  (.seq
    (.reg law01_SumNought_r0 (some ([0], [27])))
    (.seq
      (.seq
        (.reg law01_SumNought_r1 (some ([0, 9], [27])))
        (.cond (.t 9)
          (.seq
            (.reg (law01_SumNought_r2 F) (some ([2], [27])))
            .ret)
          .skip))
      (.seq
        (.reg law01_SumNought_r3 (some ([0, 3], [27])))
        (.seq
          (.seq
            (.reg law01_SumNought_r4 (some ([0, 3, 11], [27])))
            (.block 0
              (.loop
                (.seq
                  (.reg law01_SumNought_r5 (some ([0, 3, 11, 12], [27])))
                  (.seq
                    (.cond (.t 12)
                      .skip
                      (.exit 0))
                    (.seq
                      (.block 1
                        (.seq
                          (.reg law01_SumNought_r6 (some ([0, 3, 4, 11], [27])))
                          (.seq
                            (.reg law01_SumNought_r7 (some ([0, 3, 4, 11, 20], [27])))
                            (.cond (.t 20)
                              (.reg law01_SumNought_r8 (some ([0, 3, 11], [27])))
                              .skip))))
                      (.reg law01_SumNought_r9 (some ([0, 3, 11], [27])))))))))
          (.seq
            (.reg (law01_SumNought_r10 F) (some ([3, 5, 6], [27])))
            (.seq
              (.reg (law01_SumNought_r11 F) (some ([2], [27])))
              .ret))))))
def law01_SumNought_k (P : Program) (F : Nat → Nat) : Prop := chkFn P (F 26) 1 (law01_SumNought_c F) [2] = true

/- lockkeeper/lockkeeperlaw01.SumLast : names 0 s, 1 a, 2 b, 3 s, 4 a, 5 b, 7 t, 8 x, 9 ok, 10 y, 11 is uns [] -/
/- law.go:91 -/
def law01_SumLast_r0 : List AOper := [
  ⟨some 6, .val (.mov (.k (.bool false))), none⟩]
/- law.go:92 -/
def law01_SumLast_r1 : List AOper := [
  ⟨some 12, .val (.mov (.t 0)), none⟩,
  ⟨some 13, .val (.lenT (.t 12)), none⟩,
  ⟨some 14, .val (.bin .gtr false (.t 13) (.k (.int .i64 300))), none⟩]
/- law.go:93 -/
def law01_SumLast_r2 (F : Nat → Nat) : List AOper := [
  ⟨some 15, .call (F 18) [], none⟩,
  ⟨some 6, .val (.mov (.t 15)), none⟩]
/- law.go:95 -/
def law01_SumLast_r3 (F : Nat → Nat) : List AOper := [
  ⟨some 16, .call (F 19) [], none⟩,
  ⟨some 7, .val (.mov (.t 16)), none⟩]
/- law.go:96 -/
def law01_SumLast_r4 (F : Nat → Nat) : List AOper := [
  ⟨some 18, .val (.mov (.t 7)), none⟩,
  ⟨some 19, .val (.mov (.t 0)), none⟩,
  ⟨some 20, .val (.mov (.t 1)), none⟩,
  ⟨some 21, .buildS 1 1 [.int .u8 0] [(0, (.t 20))], none⟩,
  ⟨some 22, .val (.b2s (.t 21)), none⟩,
  ⟨some 23, .val (.bin .add false (.t 19) (.t 22)), none⟩,
  ⟨some 24, .call (F 21) [(.t 18), (.t 23)], none⟩,
  ⟨some 17, .val (.mov (.t 24)), none⟩,
  ⟨some 25, .val (.extr 0 (.t 17)), none⟩,
  ⟨some 26, .val (.extr 1 (.t 17)), none⟩,
  ⟨some 8, .val (.mov (.t 25)), none⟩,
  ⟨some 9, .val (.mov (.t 26)), none⟩]
/- law.go:97 -/
def law01_SumLast_r5 (F : Nat → Nat) : List AOper := [
  ⟨some 28, .val (.mov (.t 7)), none⟩,
  ⟨some 29, .val (.mov (.t 0)), none⟩,
  ⟨some 30, .val (.mov (.t 2)), none⟩,
  ⟨some 31, .buildS 1 1 [.int .u8 0] [(0, (.t 30))], none⟩,
  ⟨some 32, .val (.b2s (.t 31)), none⟩,
  ⟨some 33, .val (.bin .add false (.t 29) (.t 32)), none⟩,
  ⟨some 34, .call (F 21) [(.t 28), (.t 33)], none⟩,
  ⟨some 27, .val (.mov (.t 34)), none⟩,
  ⟨some 35, .val (.extr 0 (.t 27)), none⟩,
  ⟨some 36, .val (.extr 1 (.t 27)), none⟩,
  ⟨some 10, .val (.mov (.t 35)), none⟩,
  ⟨some 11, .val (.mov (.t 36)), none⟩]
/- law.go:98 -/
def law01_SumLast_r6 (F : Nat → Nat) : List AOper := [
  ⟨some 37, .val (.mov (.t 9)), none⟩,
  ⟨some 38, .val (.mov (.t 37)), none⟩,
  ⟨some 39, .val (.mov (.t 11)), some (38, true)⟩,
  ⟨some 40, .val (.pand (.t 38) (.t 39)), none⟩,
  ⟨some 41, .val (.mov (.t 40)), none⟩,
  ⟨some 42, .val (.mov (.t 8)), some (41, true)⟩,
  ⟨some 43, .val (.mov (.t 10)), some (41, true)⟩,
  ⟨some 44, .val (.bin .eql false (.t 42) (.t 43)), some (41, true)⟩,
  ⟨some 45, .val (.mov (.t 1)), some (41, true)⟩,
  ⟨some 46, .val (.mov (.t 2)), some (41, true)⟩,
  ⟨some 47, .val (.bin .eql false (.t 45) (.t 46)), some (41, true)⟩,
  ⟨some 48, .val (.eqB false (.t 44) (.t 47)), some (41, true)⟩,
  ⟨some 49, .val (.pand (.t 41) (.t 48)), none⟩,
  ⟨some 50, .val (.mov (.t 49)), none⟩,
  ⟨some 51, .call (F 18) [], some (50, true)⟩,
  ⟨some 52, .val (.pand (.t 50) (.t 51)), none⟩,
  ⟨some 6, .val (.mov (.t 52)), none⟩]
def law01_SumLast_c (F : Nat → Nat) : ACode :=
  (.seq
    (.reg law01_SumLast_r0 (some ([0, 1, 2], [21, 31])))
    (.seq
      (.seq
        (.reg law01_SumLast_r1 (some ([0, 1, 2, 14], [21, 31])))
        (.cond (.t 14)
          (.seq
            (.reg (law01_SumLast_r2 F) (some ([6], [21, 31])))
            .ret)
          .skip))
      (.seq
        (.reg (law01_SumLast_r3 F) (some ([0, 1, 2, 7], [21, 31])))
        (.seq
          (.reg (law01_SumLast_r4 F) (some ([0, 1, 2, 7, 8, 9], [21, 31])))
          (.seq
            (.reg (law01_SumLast_r5 F) (some ([1, 2, 8, 9, 10, 11], [21, 31])))
            (.seq
              (.reg (law01_SumLast_r6 F) (some ([6], [21, 31])))
              .ret))))))
def law01_SumLast_k (P : Program) (F : Nat → Nat) : Prop := chkFn P (F 27) 3 (law01_SumLast_c F) [6] = true

/- lockkeeper/lockkeeperlaw01.awake : names 1 n, 2 ok, 3 _, 4 is uns [] -/
/- law.go:10 -/
def law01_awake_r0 : List AOper := [
  ⟨some 0, .val (.mov (.k (.bool false))), none⟩]
/- law.go:11 -/
def law01_awake_r1 (F : Nat → Nat) : List AOper := [
  ⟨some 6, .call (F 19) [], none⟩,
  ⟨some 7, .call (F 21) [(.t 6), (.k (.str [49, 50, 51, 52, 53, 54, 55, 56, 57]))], none⟩,
  ⟨some 5, .val (.mov (.t 7)), none⟩,
  ⟨some 8, .val (.extr 0 (.t 5)), none⟩,
  ⟨some 9, .val (.extr 1 (.t 5)), none⟩,
  ⟨some 1, .val (.mov (.t 8)), none⟩,
  ⟨some 2, .val (.mov (.t 9)), none⟩]
/- law.go:12 -/
def law01_awake_r2 (F : Nat → Nat) : List AOper := [
  ⟨some 11, .call (F 21) [(.k (.nil 1)), (.k (.str [97]))], none⟩,
  ⟨some 10, .val (.mov (.t 11)), none⟩,
  ⟨some 12, .val (.extr 0 (.t 10)), none⟩,
  ⟨some 13, .val (.extr 1 (.t 10)), none⟩,
  ⟨some 3, .val (.mov (.t 12)), none⟩,
  ⟨some 4, .val (.mov (.t 13)), none⟩]
/- law.go:13 -/
def law01_awake_r3 : List AOper := [
  ⟨some 14, .val (.mov (.t 1)), none⟩,
  ⟨some 15, .val (.bin .eql false (.t 14) (.k (.int .i64 3421780262))), none⟩,
  ⟨some 16, .val (.mov (.t 15)), none⟩,
  ⟨some 17, .val (.mov (.t 2)), some (16, true)⟩,
  ⟨some 18, .val (.pand (.t 16) (.t 17)), none⟩,
  ⟨some 19, .val (.mov (.t 18)), none⟩,
  ⟨some 20, .val (.mov (.t 4)), some (19, true)⟩,
  ⟨some 21, .val (.not (.t 20)), some (19, true)⟩,
  ⟨some 22, .val (.pand (.t 19) (.t 21)), none⟩,
  ⟨some 0, .val (.mov (.t 22)), none⟩]
def law01_awake_c (F : Nat → Nat) : ACode :=
  (.seq
    (.reg law01_awake_r0 (some ([], [])))
    (.seq
      (.reg (law01_awake_r1 F) (some ([1, 2], [])))
      (.seq
        (.reg (law01_awake_r2 F) (some ([1, 2, 4], [])))
        (.seq
          (.reg law01_awake_r3 (some ([0], [])))
          .ret))))
def law01_awake_k (P : Program) (F : Nat → Nat) : Prop := chkFn P (F 18) 0 (law01_awake_c F) [0] = true

/- lockkeeper/sum.Table : names 1 t, 2 i, 3 x, 4 odd uns [] -/
/- sum.go:11 -/
def sum_Table_r0 : List AOper := [
  ⟨some 0, .val (.mov (.k (.nil 1))), none⟩]
/- sum.go:12 -/
def sum_Table_r1 : List AOper := [
  ⟨some 5, .mk 1 8 [.int .i64 0] (.k (.int .i64 256)), none⟩,
  ⟨some 1, .val (.mov (.t 5)), none⟩]
/- sum.go:13 -/
def sum_Table_r2 : List AOper := [
  ⟨some 6, .val (.mov (.t 1)), none⟩,
  ⟨some 7, .val (.lenS (.t 6)), none⟩,
  ⟨some 8, .val (.mov (.k (.int .i64 0))), none⟩]
/- sum.go:13 -/
def sum_Table_r3 : List AOper := [
  ⟨some 9, .val (.bin .lss false (.t 8) (.t 7)), none⟩]
/- sum.go:13 -/
def sum_Table_r4 : List AOper := [
  ⟨some 10, .val (.mov (.t 8)), none⟩,
  ⟨some 2, .val (.mov (.t 10)), none⟩]
/- sum.go:14 -/
def sum_Table_r5 : List AOper := [
  ⟨some 11, .val (.mov (.t 2)), none⟩,
  ⟨some 12, .val (.conv false .u32 (.t 11)), none⟩,
  ⟨some 3, .val (.mov (.t 12)), none⟩]
/- sum.go:15 -/
def sum_Table_r6 : List AOper := [
  ⟨some 13, .val (.mov (.k (.int .i64 0))), none⟩]
/- sum.go:15 -/
def sum_Table_r7 : List AOper := [
  ⟨some 14, .val (.bin .lss false (.t 13) (.k (.int .i64 8))), none⟩]
/- sum.go:16 -/
def sum_Table_r8 : List AOper := [
  ⟨some 15, .val (.mov (.t 3)), none⟩,
  ⟨some 16, .val (.bin .and false (.t 15) (.k (.int .u32 1))), none⟩,
  ⟨some 17, .val (.bin .eql false (.t 16) (.k (.int .u32 1))), none⟩,
  ⟨some 4, .val (.mov (.t 17)), none⟩]
/- sum.go:17 -/
def sum_Table_r9 : List AOper := [
  ⟨some 18, .val (.mov (.t 3)), none⟩,
  ⟨some 19, .val (.bin .shr false (.t 18) (.k (.int .u64 1))), none⟩,
  ⟨some 3, .val (.mov (.t 19)), none⟩]
/- sum.go:18 -/
def sum_Table_r10 : List AOper := [
  ⟨some 20, .val (.mov (.t 4)), none⟩]
/- sum.go:19 -/
def sum_Table_r11 : List AOper := [
  ⟨some 21, .val (.mov (.t 3)), none⟩,
  ⟨some 22, .val (.bin .xor false (.t 21) (.k (.int .u32 3988292384))), none⟩,
  ⟨some 3, .val (.mov (.t 22)), none⟩]
/- sum.go:15 -/
def sum_Table_r12 : List AOper := [
  ⟨some 23, .val (.bin .add true (.t 13) (.k (.int .i64 1))), none⟩,
  ⟨some 13, .val (.mov (.t 23)), none⟩]
/- sum.go:22 -/
def sum_Table_r13 : List AOper := [
  ⟨some 24, .val (.mov (.t 1)), none⟩,
  ⟨some 25, .val (.mov (.t 2)), none⟩,
  ⟨some 26, .val (.mov (.t 3)), none⟩,
  ⟨some 27, .val (.conv true .i64 (.t 26)), none⟩,
  ⟨some 28, .val (.ixS 1 (.t 24) (.t 25)), none⟩,
  ⟨none, .st1 false (.t 28) (.t 27), none⟩]
/- sum.go:13 -/
def sum_Table_r14 : List AOper := [
  ⟨some 29, .val (.bin .add true (.t 8) (.k (.int .i64 1))), none⟩,
  ⟨some 8, .val (.mov (.t 29)), none⟩]
/- sum.go:24 -/
def sum_Table_r15 : List AOper := [
  ⟨some 30, .val (.mov (.t 1)), none⟩,
  ⟨some 0, .val (.mov (.t 30)), none⟩]
def sum_Table_c : ACode :=
  (.seq
    (.reg sum_Table_r0 (some ([], [5])))
    (.seq
      (.reg sum_Table_r1 (some ([1], [5])))
      (.seq
        (.seq
          (.reg sum_Table_r2 (some ([1, 7, 8], [5])))
          (.block 0
            (.loop
              (.seq
                (.reg sum_Table_r3 (some ([1, 7, 8, 9], [5])))
                (.seq
                  (.cond (.t 9)
                    .skip
                    (.exit 0))
                  (.seq
                    (.block 1
                      (.seq
                        (.reg sum_Table_r4 (some ([1, 2, 7, 8], [5])))
                        (.seq
                          (.reg sum_Table_r5 (some ([1, 2, 3, 7, 8], [5])))
                          (.seq
                            (.seq
                              (.reg sum_Table_r6 (some ([1, 2, 3, 7, 8, 13], [5])))
                              (.block 2
                                (.loop
                                  (.seq
                                    (.reg sum_Table_r7 (some ([1, 2, 3, 7, 8, 13, 14], [5])))
                                    (.seq
                                      (.cond (.t 14)
                                        .skip
                                        (.exit 2))
                                      (.seq
                                        (.block 3
                                          (.seq
                                            (.reg sum_Table_r8 (some ([1, 2, 3, 4, 7, 8, 13], [5])))
                                            (.seq
                                              (.reg sum_Table_r9 (some ([1, 2, 3, 4, 7, 8, 13], [5])))
                                              (.seq
                                                (.reg sum_Table_r10 (some ([1, 2, 3, 7, 8, 13, 20], [5])))
                                                (.cond (.t 20)
                                                  (.reg sum_Table_r11 (some ([1, 2, 3, 7, 8, 13], [5])))
                                                  .skip)))))
                                        (.reg sum_Table_r12 (some ([1, 2, 3, 7, 8, 13], [5])))))))))
                            (.reg sum_Table_r13 (some ([1, 7, 8], [5])))))))
                    (.reg sum_Table_r14 (some ([1, 7, 8], [5])))))))))
        (.seq
          (.reg sum_Table_r15 (some ([0], [5])))
          .ret))))
def sum_Table_k (P : Program) (F : Nat → Nat) : Prop := chkFn P (F 19) 0 (sum_Table_c) [0] = true

/- lockkeeper/lockkeeperref01.Entry : names 0 i, 1 i, 3 n, 4 k uns [] -/
/- ref.go:5 -/
def ref01_Entry_r0 : List AOper := [
  ⟨some 2, .val (.mov (.k (.int .u32 0))), none⟩]
/- ref.go:6 -/
def ref01_Entry_r1 : List AOper := [
  ⟨some 5, .val (.mov (.t 0)), none⟩,
  ⟨some 6, .val (.conv false .u32 (.t 5)), none⟩,
  ⟨some 3, .val (.mov (.t 6)), none⟩]
/- ref.go:7 -/
def ref01_Entry_r2 : List AOper := [
  ⟨some 4, .val (.mov (.k (.int .i64 0))), none⟩]
/- ref.go:7 -/
def ref01_Entry_r3 : List AOper := [
  ⟨some 7, .val (.mov (.t 4)), none⟩,
  ⟨some 8, .val (.bin .lss false (.t 7) (.k (.int .i64 8))), none⟩]
/- ref.go:8 -/
def ref01_Entry_r5 : List AOper := [
  ⟨some 11, .val (.mov (.t 3)), none⟩,
  ⟨some 12, .val (.bin .rem true (.t 11) (.k (.int .u32 2))), none⟩,
  ⟨some 13, .val (.bin .eql false (.t 12) (.k (.int .u32 1))), none⟩]
/- ref.go:9 -/
def ref01_Entry_r6 : List AOper := [
  ⟨some 14, .val (.mov (.t 3)), none⟩,
  ⟨some 15, .val (.bin .quo true (.t 14) (.k (.int .u32 2))), none⟩,
  ⟨some 16, .val (.bin .xor false (.t 15) (.k (.int .u32 3988292384))), none⟩,
  ⟨some 3, .val (.mov (.t 16)), none⟩]
/- ref.go:11 -/
def ref01_Entry_r7 : List AOper := [
  ⟨some 17, .val (.mov (.t 3)), none⟩,
  ⟨some 18, .val (.bin .quo true (.t 17) (.k (.int .u32 2))), none⟩,
  ⟨some 3, .val (.mov (.t 18)), none⟩]
/- ref.go:7 -/
def ref01_Entry_r4 : List AOper := [
  ⟨some 9, .val (.mov (.t 4)), none⟩,
  ⟨some 10, .val (.bin .add true (.t 9) (.k (.int .i64 1))), none⟩,
  ⟨some 4, .val (.mov (.t 10)), none⟩]
/- ref.go:14 -/
def ref01_Entry_r8 : List AOper := [
  ⟨some 19, .val (.mov (.t 3)), none⟩,
  ⟨some 2, .val (.mov (.t 19)), none⟩]
def ref01_Entry_c : ACode :=
  (.seq
    (.reg ref01_Entry_r0 (some ([0], [])))
    (.seq
      (.reg ref01_Entry_r1 (some ([3], [])))
      (.seq
        (.seq
          (.reg ref01_Entry_r2 (some ([3, 4], [])))
          (.block 0
            (.loop
              (.seq
                (.seq
                  (.reg ref01_Entry_r3 (some ([3, 4, 8], [])))
                  (.cond (.t 8)
                    .skip
                    (.exit 0)))
                (.seq
                  (.block 1
                    (.seq
                      (.reg ref01_Entry_r5 (some ([3, 4, 13], [])))
                      (.cond (.t 13)
                        (.reg ref01_Entry_r6 (some ([3, 4], [])))
                        (.reg ref01_Entry_r7 (some ([3, 4], []))))))
                  (.reg ref01_Entry_r4 (some ([3, 4], []))))))))
        (.seq
          (.reg ref01_Entry_r8 (some ([2], [])))
          .ret))))
def ref01_Entry_k (P : Program) (F : Nat → Nat) : Prop := chkFn P (F 20) 1 (ref01_Entry_c) [2] = true

/- lockkeeper/sum.Sum : names 0 t, 1 s, 2 t, 3 s, 6 state, 7 i, 8 entry uns [] -/
/- sum.go:28 -/
def sum_Sum_r0 : List AOper := [
  ⟨some 4, .val (.mov (.k (.int .i64 0))), none⟩,
  ⟨some 5, .val (.mov (.k (.bool false))), none⟩]
/- sum.go:29 -/
def sum_Sum_r1 : List AOper := [
  ⟨some 9, .val (.mov (.t 0)), none⟩,
  ⟨some 10, .val (.lenS (.t 9)), none⟩,
  ⟨some 11, .val (.bin .neq false (.t 10) (.k (.int .i64 256))), none⟩]
/- sum.go:30 -/
def sum_Sum_r2 : List AOper := [
  ⟨some 4, .val (.mov (.k (.int .i64 0))), none⟩,
  ⟨some 5, .val (.mov (.k (.bool false))), none⟩]
/- sum.go:32 -/
def sum_Sum_r3 : List AOper := [
  ⟨some 6, .val (.mov (.k (.int .u32 4294967295))), none⟩]
/- sum.go:33 -/
def sum_Sum_r4 : List AOper := [
  ⟨some 7, .val (.mov (.k (.int .i64 0))), none⟩]
/- sum.go:33 -/
def sum_Sum_r5 : List AOper := [
  ⟨some 12, .val (.mov (.t 7)), none⟩,
  ⟨some 13, .val (.mov (.t 1)), none⟩,
  ⟨some 14, .val (.lenT (.t 13)), none⟩,
  ⟨some 15, .val (.bin .lss false (.t 12) (.t 14)), none⟩]
/- sum.go:34 -/
def sum_Sum_r7 : List AOper := [
  ⟨some 18, .val (.mov (.t 0)), none⟩,
  ⟨some 19, .val (.mov (.t 6)), none⟩,
  ⟨some 20, .val (.conv false .u8 (.t 19)), none⟩,
  ⟨some 21, .val (.mov (.t 1)), none⟩,
  ⟨some 22, .val (.mov (.t 7)), none⟩,
  ⟨some 23, .val (.idx (.t 21) (.t 22)), none⟩,
  ⟨some 24, .val (.bin .xor false (.t 20) (.t 23)), none⟩,
  ⟨some 25, .val (.ixS 1 (.t 18) (.t 24)), none⟩,
  ⟨some 26, .val (.load1 (.t 25)), none⟩,
  ⟨some 27, .val (.conv false .u32 (.t 26)), none⟩,
  ⟨some 8, .val (.mov (.t 27)), none⟩]
/- sum.go:35 -/
def sum_Sum_r8 : List AOper := [
  ⟨some 28, .val (.mov (.t 8)), none⟩,
  ⟨some 29, .val (.mov (.t 6)), none⟩,
  ⟨some 30, .val (.bin .shr false (.t 29) (.k (.int .u64 8))), none⟩,
  ⟨some 31, .val (.bin .xor false (.t 28) (.t 30)), none⟩,
  ⟨some 6, .val (.mov (.t 31)), none⟩]
/- sum.go:33 -/
def sum_Sum_r6 : List AOper := [
  ⟨some 16, .val (.mov (.t 7)), none⟩,
  ⟨some 17, .val (.bin .add true (.t 16) (.k (.int .i64 1))), none⟩,
  ⟨some 7, .val (.mov (.t 17)), none⟩]
/- sum.go:37 -/
def sum_Sum_r9 : List AOper := [
  ⟨some 32, .val (.mov (.t 6)), none⟩,
  ⟨some 33, .val (.com (.t 32)), none⟩,
  ⟨some 34, .val (.conv true .i64 (.t 33)), none⟩,
  ⟨some 4, .val (.mov (.t 34)), none⟩,
  ⟨some 5, .val (.mov (.k (.bool true))), none⟩]
def sum_Sum_c : ACode :=
  (.seq
    (.reg sum_Sum_r0 (some ([0, 1], [])))
    (.seq
      (.seq
        (.reg sum_Sum_r1 (some ([0, 1, 11], [])))
        (.cond (.t 11)
          (.seq
            (.reg sum_Sum_r2 (some ([4, 5], [])))
            .ret)
          .skip))
      (.seq
        (.reg sum_Sum_r3 (some ([0, 1, 6], [])))
        (.seq
          (.seq
            (.reg sum_Sum_r4 (some ([0, 1, 6, 7], [])))
            (.block 0
              (.loop
                (.seq
                  (.seq
                    (.reg sum_Sum_r5 (some ([0, 1, 6, 7, 15], [])))
                    (.cond (.t 15)
                      .skip
                      (.exit 0)))
                  (.seq
                    (.block 1
                      (.seq
                        (.reg sum_Sum_r7 (some ([0, 1, 6, 7, 8], [])))
                        (.reg sum_Sum_r8 (some ([0, 1, 6, 7], [])))))
                    (.reg sum_Sum_r6 (some ([0, 1, 6, 7], []))))))))
          (.seq
            (.reg sum_Sum_r9 (some ([4, 5], [])))
            .ret)))))
def sum_Sum_k (P : Program) (F : Nat → Nat) : Prop := chkFn P (F 21) 2 (sum_Sum_c) [4, 5] = true

/- lockkeeper/lockkeeperref01.Sum : names 0 s, 1 s, 3 n, 4 i, 5 k uns [] -/
/- ref.go:27 -/
def ref01_Sum_r0 : List AOper := [
  ⟨some 2, .val (.mov (.k (.int .i64 0))), none⟩]
/- ref.go:28 -/
def ref01_Sum_r1 : List AOper := [
  ⟨some 3, .val (.mov (.k (.int .u32 4294967295))), none⟩]
/- ref.go:29 -/
def ref01_Sum_r2 : List AOper := [
  ⟨some 4, .val (.mov (.k (.int .i64 0))), none⟩]
/- ref.go:29 -/
def ref01_Sum_r3 : List AOper := [
  ⟨some 6, .val (.mov (.t 4)), none⟩,
  ⟨some 7, .val (.mov (.t 0)), none⟩,
  ⟨some 8, .val (.lenT (.t 7)), none⟩,
  ⟨some 9, .val (.bin .lss false (.t 6) (.t 8)), none⟩]
/- ref.go:30 -/
def ref01_Sum_r5 : List AOper := [
  ⟨some 12, .val (.mov (.t 3)), none⟩,
  ⟨some 13, .val (.mov (.t 0)), none⟩,
  ⟨some 14, .val (.mov (.t 4)), none⟩,
  ⟨some 15, .val (.idx (.t 13) (.t 14)), none⟩,
  ⟨some 16, .val (.conv true .u32 (.t 15)), none⟩,
  ⟨some 17, .val (.bin .xor false (.t 12) (.t 16)), none⟩,
  ⟨some 3, .val (.mov (.t 17)), none⟩]
/- ref.go:31 -/
def ref01_Sum_r6 : List AOper := [
  ⟨some 5, .val (.mov (.k (.int .i64 0))), none⟩]
/- ref.go:31 -/
def ref01_Sum_r7 : List AOper := [
  ⟨some 18, .val (.mov (.t 5)), none⟩,
  ⟨some 19, .val (.bin .lss false (.t 18) (.k (.int .i64 8))), none⟩]
/- ref.go:32 -/
def ref01_Sum_r9 : List AOper := [
  ⟨some 22, .val (.mov (.t 3)), none⟩,
  ⟨some 23, .val (.bin .rem true (.t 22) (.k (.int .u32 2))), none⟩,
  ⟨some 24, .val (.bin .eql false (.t 23) (.k (.int .u32 1))), none⟩]
/- ref.go:33 -/
def ref01_Sum_r10 : List AOper := [
  ⟨some 25, .val (.mov (.t 3)), none⟩,
  ⟨some 26, .val (.bin .quo true (.t 25) (.k (.int .u32 2))), none⟩,
  ⟨some 27, .val (.bin .xor false (.t 26) (.k (.int .u32 3988292384))), none⟩,
  ⟨some 3, .val (.mov (.t 27)), none⟩]
/- ref.go:35 -/
def ref01_Sum_r11 : List AOper := [
  ⟨some 28, .val (.mov (.t 3)), none⟩,
  ⟨some 29, .val (.bin .quo true (.t 28) (.k (.int .u32 2))), none⟩,
  ⟨some 3, .val (.mov (.t 29)), none⟩]
/- ref.go:31 -/
def ref01_Sum_r8 : List AOper := [
  ⟨some 20, .val (.mov (.t 5)), none⟩,
  ⟨some 21, .val (.bin .add true (.t 20) (.k (.int .i64 1))), none⟩,
  ⟨some 5, .val (.mov (.t 21)), none⟩]
/- ref.go:29 -/
def ref01_Sum_r4 : List AOper := [
  ⟨some 10, .val (.mov (.t 4)), none⟩,
  ⟨some 11, .val (.bin .add true (.t 10) (.k (.int .i64 1))), none⟩,
  ⟨some 4, .val (.mov (.t 11)), none⟩]
/- ref.go:39 -/
def ref01_Sum_r12 : List AOper := [
  ⟨some 30, .val (.mov (.t 3)), none⟩,
  ⟨some 31, .val (.com (.t 30)), none⟩,
  ⟨some 32, .val (.conv true .i64 (.t 31)), none⟩,
  ⟨some 2, .val (.mov (.t 32)), none⟩]
def ref01_Sum_c : ACode :=
  (.seq
    (.reg ref01_Sum_r0 (some ([0], [])))
    (.seq
      (.reg ref01_Sum_r1 (some ([0, 3], [])))
      (.seq
        (.seq
          (.reg ref01_Sum_r2 (some ([0, 3, 4], [])))
          (.block 0
            (.loop
              (.seq
                (.seq
                  (.reg ref01_Sum_r3 (some ([0, 3, 4, 9], [])))
                  (.cond (.t 9)
                    .skip
                    (.exit 0)))
                (.seq
                  (.block 1
                    (.seq
                      (.reg ref01_Sum_r5 (some ([0, 3, 4], [])))
                      (.seq
                        (.reg ref01_Sum_r6 (some ([0, 3, 4, 5], [])))
                        (.block 2
                          (.loop
                            (.seq
                              (.seq
                                (.reg ref01_Sum_r7 (some ([0, 3, 4, 5, 19], [])))
                                (.cond (.t 19)
                                  .skip
                                  (.exit 2)))
                              (.seq
                                (.block 3
                                  (.seq
                                    (.reg ref01_Sum_r9 (some ([0, 3, 4, 5, 24], [])))
                                    (.cond (.t 24)
                                      (.reg ref01_Sum_r10 (some ([0, 3, 4, 5], [])))
                                      (.reg ref01_Sum_r11 (some ([0, 3, 4, 5], []))))))
                                (.reg ref01_Sum_r8 (some ([0, 3, 4, 5], []))))))))))
                  (.reg ref01_Sum_r4 (some ([0, 3, 4], []))))))))
        (.seq
          (.reg ref01_Sum_r12 (some ([2], [])))
          .ret))))
def ref01_Sum_k (P : Program) (F : Nat → Nat) : Prop := chkFn P (F 22) 1 (ref01_Sum_c) [2] = true

end Lk.C
