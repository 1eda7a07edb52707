/-
  The code of functions, as the abstract machine's, over any numbering F of the program's functions.
-/
import Derived.Test.YtbjlbloncjfbhaaLkC
namespace Lk.C
open Go Lk
/- lockkeeper/lockkeeperlaw02.PagePuts : names 0 p, 1 p, 3 s, 4 e, 5 right, 6 q, 7 f uns [] -/
/- law.go:19 -/
def law02_PagePuts_r0 : List AOper := [
  ⟨some 1, .box 3 (.t 0), none⟩,
  ⟨some 2, .val (.mov (.k (.bool false))), none⟩]
/- law.go:20 -/
def law02_PagePuts_r1 : List AOper := [
  ⟨some 8, .val (.field 2 (.t 1)), none⟩,
  ⟨some 9, .val (.load1 (.t 8)), none⟩,
  ⟨some 10, .val (.lenT (.t 9)), none⟩,
  ⟨some 11, .val (.bin .gtr false (.t 10) (.k (.int .i64 100))), none⟩]
/- law.go:21 -/
def law02_PagePuts_r2 (F : Nat → Nat) : List AOper := [
  ⟨some 12, .call (F 57) [], none⟩,
  ⟨some 2, .val (.mov (.t 12)), none⟩]
/- law.go:23 -/
def law02_PagePuts_r3 (F : Nat → Nat) : List AOper := [
  ⟨some 14, .val (.loadA 3 (.t 1)), none⟩,
  ⟨some 15, .call (F 58) [(.t 14)], none⟩,
  ⟨some 13, .val (.mov (.t 15)), none⟩,
  ⟨some 16, .val (.extr 0 (.t 13)), none⟩,
  ⟨some 17, .val (.extr 1 (.t 13)), none⟩,
  ⟨some 3, .val (.mov (.t 16)), none⟩,
  ⟨some 4, .val (.mov (.t 17)), none⟩]
/- law.go:24 -/
def law02_PagePuts_r4 (F : Nat → Nat) : List AOper := [
  ⟨some 18, .val (.loadA 3 (.t 1)), none⟩,
  ⟨some 19, .call (F 59) [(.t 18)], none⟩,
  ⟨some 5, .val (.mov (.t 19)), none⟩]
/- law.go:25 -/
def law02_PagePuts_r5 (F : Nat → Nat) : List AOper := [
  ⟨some 20, .val (.loadA 3 (.t 1)), none⟩,
  ⟨some 21, .call (F 60) [(.t 20)], none⟩,
  ⟨some 22, .val (.mov (.t 5)), none⟩,
  ⟨some 23, .val (.eqB true (.t 21) (.t 22)), none⟩]
/- law.go:26 -/
def law02_PagePuts_r6 : List AOper := [
  ⟨some 2, .val (.mov (.k (.bool false))), none⟩]
/- law.go:28 -/
def law02_PagePuts_r7 : List AOper := [
  ⟨some 24, .val (.mov (.t 5)), none⟩,
  ⟨some 25, .val (.not (.t 24)), none⟩]
/- law.go:29 -/
def law02_PagePuts_r8 (F : Nat → Nat) : List AOper := [
  ⟨some 26, .val (.mov (.t 3)), none⟩,
  ⟨some 27, .val (.bin .eql false (.t 26) (.k (.str []))), none⟩,
  ⟨some 28, .val (.mov (.t 27)), none⟩,
  ⟨some 29, .val (.mov (.t 4)), some (28, true)⟩,
  ⟨some 30, .val (.bin .eql false (.t 29) (.k (.int .i64 1))), some (28, true)⟩,
  ⟨some 31, .val (.pand (.t 28) (.t 30)), none⟩,
  ⟨some 32, .val (.mov (.t 31)), none⟩,
  ⟨some 33, .call (F 57) [], some (32, true)⟩,
  ⟨some 34, .val (.pand (.t 32) (.t 33)), none⟩,
  ⟨some 2, .val (.mov (.t 34)), none⟩]
/- law.go:31 -/
def law02_PagePuts_r9 (F : Nat → Nat) : List AOper := [
  ⟨some 36, .val (.mov (.t 3)), none⟩,
  ⟨some 37, .call (F 61) [(.t 36)], none⟩,
  ⟨some 35, .val (.mov (.t 37)), none⟩,
  ⟨some 38, .val (.extr 0 (.t 35)), none⟩,
  ⟨some 39, .val (.extr 1 (.t 35)), none⟩,
  ⟨some 6, .alloc 3 [.int .i64 0, .int .i64 0, .str []], none⟩,
  ⟨none, .stA true 3 (.t 6) (.t 38), none⟩,
  ⟨some 7, .val (.mov (.t 39)), none⟩]
/- law.go:32 -/
def law02_PagePuts_r10 (F : Nat → Nat) : List AOper := [
  ⟨some 40, .val (.mov (.t 3)), none⟩,
  ⟨some 41, .val (.loadA 3 (.t 1)), none⟩,
  ⟨some 42, .call (F 62) [(.t 41)], none⟩,
  ⟨some 43, .val (.bin .eql false (.t 40) (.t 42)), none⟩,
  ⟨some 44, .val (.mov (.t 43)), none⟩,
  ⟨some 45, .val (.mov (.t 4)), some (44, true)⟩,
  ⟨some 46, .val (.bin .eql false (.t 45) (.k (.int .i64 0))), some (44, true)⟩,
  ⟨some 47, .val (.pand (.t 44) (.t 46)), none⟩,
  ⟨some 48, .val (.mov (.t 47)), none⟩,
  ⟨some 49, .val (.loadA 3 (.t 6)), some (48, true)⟩,
  ⟨some 50, .val (.loadA 3 (.t 1)), some (48, true)⟩,
  ⟨some 51, .val (.eqA false [0, 0, 2] (.t 49) (.t 50)), some (48, true)⟩,
  ⟨some 52, .val (.pand (.t 48) (.t 51)), none⟩,
  ⟨some 53, .val (.mov (.t 52)), none⟩,
  ⟨some 54, .val (.mov (.t 7)), some (53, true)⟩,
  ⟨some 55, .val (.bin .eql false (.t 54) (.k (.int .i64 0))), some (53, true)⟩,
  ⟨some 56, .val (.pand (.t 53) (.t 55)), none⟩,
  ⟨some 57, .val (.mov (.t 56)), none⟩,
  ⟨some 58, .call (F 57) [], some (57, true)⟩,
  ⟨some 59, .val (.pand (.t 57) (.t 58)), none⟩,
  ⟨some 2, .val (.mov (.t 59)), none⟩]
def law02_PagePuts_c (F : Nat → Nat) : ACode :=
  (.seq
    (.reg law02_PagePuts_r0 (some ([1], [1])))
    (.seq
      (.seq
        (.reg law02_PagePuts_r1 (some ([1, 11], [1])))
        (.cond (.t 11)
          (.seq
            (.reg (law02_PagePuts_r2 F) (some ([2], [])))
            .ret)
          .skip))
      (.seq
        (.reg (law02_PagePuts_r3 F) (some ([1, 3, 4], [1])))
        (.seq
          (.reg (law02_PagePuts_r4 F) (some ([1, 3, 4, 5], [1])))
          (.seq
            (.seq
              (.reg (law02_PagePuts_r5 F) (some ([1, 3, 4, 5, 23], [1])))
              (.cond (.t 23)
                (.seq
                  (.reg law02_PagePuts_r6 (some ([2], [])))
                  .ret)
                .skip))
            (.seq
              (.seq
                (.reg law02_PagePuts_r7 (some ([1, 3, 4, 25], [1])))
                (.cond (.t 25)
                  (.seq
                    (.reg (law02_PagePuts_r8 F) (some ([2], [])))
                    .ret)
                  .skip))
              (.seq
                (.reg (law02_PagePuts_r9 F) (some ([1, 3, 4, 6, 7], [1, 6])))
                (.seq
                  (.reg (law02_PagePuts_r10 F) (some ([2], [])))
                  .ret))))))))
def law02_PagePuts_k (P : Program) (F : Nat → Nat) : Prop := chkFn P (F 63) 1 (law02_PagePuts_c F) [2] = true

/- lockkeeper/lockkeeperlaw02.PageTakes : names 0 s, 1 s, 3 p, 4 e, 5 q, 6 f uns [] -/
/- law.go:36 -/
def law02_PageTakes_r0 : List AOper := [
  ⟨some 2, .val (.mov (.k (.bool false))), none⟩]
/- law.go:37 -/
def law02_PageTakes_r1 : List AOper := [
  ⟨some 7, .val (.mov (.t 0)), none⟩,
  ⟨some 8, .val (.lenT (.t 7)), none⟩,
  ⟨some 9, .val (.bin .gtr false (.t 8) (.k (.int .i64 100))), none⟩]
/- law.go:38 -/
def law02_PageTakes_r2 (F : Nat → Nat) : List AOper := [
  ⟨some 10, .call (F 57) [], none⟩,
  ⟨some 2, .val (.mov (.t 10)), none⟩]
/- law.go:40 -/
def law02_PageTakes_r3 (F : Nat → Nat) : List AOper := [
  ⟨some 12, .val (.mov (.t 0)), none⟩,
  ⟨some 13, .call (F 61) [(.t 12)], none⟩,
  ⟨some 11, .val (.mov (.t 13)), none⟩,
  ⟨some 14, .val (.extr 0 (.t 11)), none⟩,
  ⟨some 15, .val (.extr 1 (.t 11)), none⟩,
  ⟨some 3, .alloc 3 [.int .i64 0, .int .i64 0, .str []], none⟩,
  ⟨none, .stA true 3 (.t 3) (.t 14), none⟩,
  ⟨some 4, .val (.mov (.t 15)), none⟩]
/- law.go:41 -/
def law02_PageTakes_r4 (F : Nat → Nat) : List AOper := [
  ⟨some 17, .val (.mov (.t 0)), none⟩,
  ⟨some 18, .call (F 64) [(.t 17)], none⟩,
  ⟨some 16, .val (.mov (.t 18)), none⟩,
  ⟨some 19, .val (.extr 0 (.t 16)), none⟩,
  ⟨some 20, .val (.extr 1 (.t 16)), none⟩,
  ⟨some 5, .alloc 3 [.int .i64 0, .int .i64 0, .str []], none⟩,
  ⟨none, .stA true 3 (.t 5) (.t 19), none⟩,
  ⟨some 6, .val (.mov (.t 20)), none⟩]
/- law.go:42 -/
def law02_PageTakes_r5 (F : Nat → Nat) : List AOper := [
  ⟨some 21, .val (.loadA 3 (.t 3)), none⟩,
  ⟨some 22, .val (.loadA 3 (.t 5)), none⟩,
  ⟨some 23, .val (.eqA false [0, 0, 2] (.t 21) (.t 22)), none⟩,
  ⟨some 24, .val (.mov (.t 23)), none⟩,
  ⟨some 25, .val (.mov (.t 4)), some (24, true)⟩,
  ⟨some 26, .val (.mov (.t 6)), some (24, true)⟩,
  ⟨some 27, .val (.bin .eql false (.t 25) (.t 26)), some (24, true)⟩,
  ⟨some 28, .val (.pand (.t 24) (.t 27)), none⟩,
  ⟨some 29, .val (.mov (.t 28)), none⟩,
  ⟨some 30, .call (F 57) [], some (29, true)⟩,
  ⟨some 31, .val (.pand (.t 29) (.t 30)), none⟩,
  ⟨some 2, .val (.mov (.t 31)), none⟩]
def law02_PageTakes_c (F : Nat → Nat) : ACode :=
  (.seq
    (.reg law02_PageTakes_r0 (some ([0], [])))
    (.seq
      (.seq
        (.reg law02_PageTakes_r1 (some ([0, 9], [])))
        (.cond (.t 9)
          (.seq
            (.reg (law02_PageTakes_r2 F) (some ([2], [])))
            .ret)
          .skip))
      (.seq
        (.reg (law02_PageTakes_r3 F) (some ([0, 3, 4], [3])))
        (.seq
          (.reg (law02_PageTakes_r4 F) (some ([3, 4, 5, 6], [3, 5])))
          (.seq
            (.reg (law02_PageTakes_r5 F) (some ([2], [])))
            .ret)))))
def law02_PageTakes_k (P : Program) (F : Nat → Nat) : Prop := chkFn P (F 65) 1 (law02_PageTakes_c F) [2] = true

/- lockkeeper/lockkeeperlaw02.PageBit : names 0 p, 1 at, 2 bit, 3 p, 4 at, 5 bit, 7 s, 8 e, 9 b, 10 q, 11 f uns [] -/
/- law.go:46 -/
def law02_PageBit_r0 : List AOper := [
  ⟨some 3, .box 3 (.t 0), none⟩,
  ⟨some 6, .val (.mov (.k (.bool false))), none⟩]
/- law.go:47 -/
def law02_PageBit_r1 (F : Nat → Nat) : List AOper := [
  ⟨some 13, .val (.loadA 3 (.t 3)), none⟩,
  ⟨some 14, .call (F 58) [(.t 13)], none⟩,
  ⟨some 12, .val (.mov (.t 14)), none⟩,
  ⟨some 15, .val (.extr 0 (.t 12)), none⟩,
  ⟨some 16, .val (.extr 1 (.t 12)), none⟩,
  ⟨some 7, .val (.mov (.t 15)), none⟩,
  ⟨some 8, .val (.mov (.t 16)), none⟩]
/- law.go:48 -/
def law02_PageBit_r2 : List AOper := [
  ⟨some 17, .val (.mov (.t 8)), none⟩,
  ⟨some 18, .val (.bin .neq false (.t 17) (.k (.int .i64 0))), none⟩,
  ⟨some 19, .val (.mov (.t 18)), none⟩,
  ⟨some 20, .val (.mov (.t 7)), some (19, false)⟩,
  ⟨some 21, .val (.lenT (.t 20)), some (19, false)⟩,
  ⟨some 22, .val (.bin .neq false (.t 21) (.k (.int .i64 32))), some (19, false)⟩,
  ⟨some 23, .val (.por (.t 19) (.t 22)), none⟩]
/- law.go:49 -/
def law02_PageBit_r3 (F : Nat → Nat) : List AOper := [
  ⟨some 24, .val (.mov (.t 8)), none⟩,
  ⟨some 25, .val (.bin .eql false (.t 24) (.k (.int .i64 1))), none⟩,
  ⟨some 26, .val (.mov (.t 25)), none⟩,
  ⟨some 27, .call (F 57) [], some (26, true)⟩,
  ⟨some 28, .val (.pand (.t 26) (.t 27)), none⟩,
  ⟨some 6, .val (.mov (.t 28)), none⟩]
/- law.go:51 -/
def law02_PageBit_r4 : List AOper := [
  ⟨some 29, .val (.mov (.t 7)), none⟩,
  ⟨some 30, .s2b (.t 29), none⟩,
  ⟨some 9, .val (.mov (.t 30)), none⟩]
/- law.go:52 -/
def law02_PageBit_r5 : List AOper := [
  ⟨some 31, .val (.mov (.t 9)), none⟩,
  ⟨some 32, .val (.mov (.t 1)), none⟩,
  ⟨some 33, .val (.conv true .i64 (.t 32)), none⟩,
  ⟨some 34, .val (.bin .rem true (.t 33) (.k (.int .i64 32))), none⟩,
  ⟨some 35, .val (.ixS 1 (.t 31) (.t 34)), none⟩,
  ⟨some 36, .val (.load1 (.t 35)), none⟩,
  ⟨some 37, .val (.mov (.t 2)), none⟩,
  ⟨some 38, .val (.bin .rem true (.t 37) (.k (.int .u8 8))), none⟩,
  ⟨some 39, .val (.bin .shl false (.k (.int .u8 1)) (.t 38)), none⟩,
  ⟨some 40, .val (.bin .xor false (.t 36) (.t 39)), none⟩,
  ⟨some 41, .val (.ixS 1 (.t 31) (.t 34)), none⟩,
  ⟨none, .st1 false (.t 41) (.t 40), none⟩]
/- law.go:53 -/
def law02_PageBit_r6 (F : Nat → Nat) : List AOper := [
  ⟨some 43, .val (.mov (.t 9)), none⟩,
  ⟨some 44, .val (.b2s (.t 43)), none⟩,
  ⟨some 45, .call (F 61) [(.t 44)], none⟩,
  ⟨some 42, .val (.mov (.t 45)), none⟩,
  ⟨some 46, .val (.extr 0 (.t 42)), none⟩,
  ⟨some 47, .val (.extr 1 (.t 42)), none⟩,
  ⟨some 10, .alloc 3 [.int .i64 0, .int .i64 0, .str []], none⟩,
  ⟨none, .stA true 3 (.t 10) (.t 46), none⟩,
  ⟨some 11, .val (.mov (.t 47)), none⟩]
/- law.go:54 -/
def law02_PageBit_r7 (F : Nat → Nat) : List AOper := [
  ⟨some 48, .val (.loadA 3 (.t 10)), none⟩,
  ⟨some 49, .val (.build 3 [.int .i64 0, .int .i64 0, .str []] []), none⟩,
  ⟨some 50, .val (.eqA false [0, 0, 2] (.t 48) (.t 49)), none⟩,
  ⟨some 51, .val (.mov (.t 50)), none⟩,
  ⟨some 52, .val (.mov (.t 11)), some (51, true)⟩,
  ⟨some 53, .val (.bin .eql false (.t 52) (.k (.int .i64 9))), some (51, true)⟩,
  ⟨some 54, .val (.pand (.t 51) (.t 53)), none⟩,
  ⟨some 55, .val (.mov (.t 54)), none⟩,
  ⟨some 56, .call (F 57) [], some (55, true)⟩,
  ⟨some 57, .val (.pand (.t 55) (.t 56)), none⟩,
  ⟨some 6, .val (.mov (.t 57)), none⟩]
def law02_PageBit_c (F : Nat → Nat) : ACode :=
  (.seq
    (.reg law02_PageBit_r0 (some ([1, 2, 3], [3, 30])))
    (.seq
      (.reg (law02_PageBit_r1 F) (some ([1, 2, 7, 8], [30])))
      (.seq
        (.seq
          (.reg law02_PageBit_r2 (some ([1, 2, 7, 8, 23], [30])))
          (.cond (.t 23)
            (.seq
              (.reg (law02_PageBit_r3 F) (some ([6], [30])))
              .ret)
            .skip))
        (.seq
          (.reg law02_PageBit_r4 (some ([1, 2, 9], [30])))
          (.seq
            (.reg law02_PageBit_r5 (some ([9], [30])))
            (.seq
              (.reg (law02_PageBit_r6 F) (some ([10, 11], [10, 30])))
              (.seq
                (.reg (law02_PageBit_r7 F) (some ([6], [30])))
                .ret)))))))
def law02_PageBit_k (P : Program) (F : Nat → Nat) : Prop := chkFn P (F 66) 3 (law02_PageBit_c F) [6] = true

/- lockkeeper/lockkeeperlaw02.PageApart : names 0 p, 1 q, 2 p, 3 q, 5 s, 6 e, 7 t, 8 f uns [] -/
/- law.go:58 -/
def law02_PageApart_r0 : List AOper := [
  ⟨some 2, .box 3 (.t 0), none⟩,
  ⟨some 3, .box 3 (.t 1), none⟩,
  ⟨some 4, .val (.mov (.k (.bool false))), none⟩]
/- law.go:59 -/
def law02_PageApart_r1 : List AOper := [
  ⟨some 9, .val (.field 2 (.t 2)), none⟩,
  ⟨some 10, .val (.load1 (.t 9)), none⟩,
  ⟨some 11, .val (.lenT (.t 10)), none⟩,
  ⟨some 12, .val (.bin .gtr false (.t 11) (.k (.int .i64 100))), none⟩,
  ⟨some 13, .val (.mov (.t 12)), none⟩,
  ⟨some 14, .val (.field 2 (.t 3)), some (13, false)⟩,
  ⟨some 15, .val (.load1 (.t 14)), some (13, false)⟩,
  ⟨some 16, .val (.lenT (.t 15)), some (13, false)⟩,
  ⟨some 17, .val (.bin .gtr false (.t 16) (.k (.int .i64 100))), some (13, false)⟩,
  ⟨some 18, .val (.por (.t 13) (.t 17)), none⟩]
/- law.go:60 -/
def law02_PageApart_r2 (F : Nat → Nat) : List AOper := [
  ⟨some 19, .call (F 57) [], none⟩,
  ⟨some 4, .val (.mov (.t 19)), none⟩]
/- law.go:62 -/
def law02_PageApart_r3 (F : Nat → Nat) : List AOper := [
  ⟨some 21, .val (.loadA 3 (.t 2)), none⟩,
  ⟨some 22, .call (F 58) [(.t 21)], none⟩,
  ⟨some 20, .val (.mov (.t 22)), none⟩,
  ⟨some 23, .val (.extr 0 (.t 20)), none⟩,
  ⟨some 24, .val (.extr 1 (.t 20)), none⟩,
  ⟨some 5, .val (.mov (.t 23)), none⟩,
  ⟨some 6, .val (.mov (.t 24)), none⟩]
/- law.go:63 -/
def law02_PageApart_r4 (F : Nat → Nat) : List AOper := [
  ⟨some 26, .val (.loadA 3 (.t 3)), none⟩,
  ⟨some 27, .call (F 58) [(.t 26)], none⟩,
  ⟨some 25, .val (.mov (.t 27)), none⟩,
  ⟨some 28, .val (.extr 0 (.t 25)), none⟩,
  ⟨some 29, .val (.extr 1 (.t 25)), none⟩,
  ⟨some 7, .val (.mov (.t 28)), none⟩,
  ⟨some 8, .val (.mov (.t 29)), none⟩]
/- law.go:64 -/
def law02_PageApart_r5 : List AOper := [
  ⟨some 30, .val (.mov (.t 6)), none⟩,
  ⟨some 31, .val (.bin .neq false (.t 30) (.k (.int .i64 0))), none⟩,
  ⟨some 32, .val (.mov (.t 31)), none⟩,
  ⟨some 33, .val (.mov (.t 8)), some (32, false)⟩,
  ⟨some 34, .val (.bin .neq false (.t 33) (.k (.int .i64 0))), some (32, false)⟩,
  ⟨some 35, .val (.por (.t 32) (.t 34)), none⟩]
/- law.go:65 -/
def law02_PageApart_r6 (F : Nat → Nat) : List AOper := [
  ⟨some 36, .val (.mov (.t 6)), none⟩,
  ⟨some 37, .val (.bin .eql false (.t 36) (.k (.int .i64 0))), none⟩,
  ⟨some 38, .val (.mov (.t 37)), none⟩,
  ⟨some 39, .val (.mov (.t 5)), some (38, false)⟩,
  ⟨some 40, .val (.bin .eql false (.t 39) (.k (.str []))), some (38, false)⟩,
  ⟨some 41, .val (.por (.t 38) (.t 40)), none⟩,
  ⟨some 42, .val (.mov (.t 41)), none⟩,
  ⟨some 43, .val (.mov (.t 8)), some (42, true)⟩,
  ⟨some 44, .val (.bin .eql false (.t 43) (.k (.int .i64 0))), some (42, true)⟩,
  ⟨some 45, .val (.mov (.t 44)), some (42, true)⟩,
  ⟨some 46, .val (.mov (.t 7)), some (45, false)⟩,
  ⟨some 47, .val (.bin .eql false (.t 46) (.k (.str []))), some (45, false)⟩,
  ⟨some 48, .val (.por (.t 45) (.t 47)), some (42, true)⟩,
  ⟨some 49, .val (.pand (.t 42) (.t 48)), none⟩,
  ⟨some 50, .val (.mov (.t 49)), none⟩,
  ⟨some 51, .call (F 57) [], some (50, true)⟩,
  ⟨some 52, .val (.pand (.t 50) (.t 51)), none⟩,
  ⟨some 4, .val (.mov (.t 52)), none⟩]
/- law.go:67 -/
def law02_PageApart_r7 (F : Nat → Nat) : List AOper := [
  ⟨some 53, .val (.mov (.t 5)), none⟩,
  ⟨some 54, .val (.mov (.t 7)), none⟩,
  ⟨some 55, .val (.bin .eql false (.t 53) (.t 54)), none⟩,
  ⟨some 56, .val (.loadA 3 (.t 2)), none⟩,
  ⟨some 57, .val (.loadA 3 (.t 3)), none⟩,
  ⟨some 58, .val (.eqA false [0, 0, 2] (.t 56) (.t 57)), none⟩,
  ⟨some 59, .val (.eqB false (.t 55) (.t 58)), none⟩,
  ⟨some 60, .val (.mov (.t 59)), none⟩,
  ⟨some 61, .val (.mov (.t 5)), some (60, true)⟩,
  ⟨some 62, .call (F 67) [(.t 61)], some (60, true)⟩,
  ⟨some 63, .val (.not (.t 62)), some (60, true)⟩,
  ⟨some 64, .val (.pand (.t 60) (.t 63)), none⟩,
  ⟨some 65, .val (.mov (.t 64)), none⟩,
  ⟨some 66, .call (F 57) [], some (65, true)⟩,
  ⟨some 67, .val (.pand (.t 65) (.t 66)), none⟩,
  ⟨some 4, .val (.mov (.t 67)), none⟩]
def law02_PageApart_c (F : Nat → Nat) : ACode :=
  (.seq
    (.reg law02_PageApart_r0 (some ([2, 3], [2, 3])))
    (.seq
      (.seq
        (.reg law02_PageApart_r1 (some ([2, 3, 18], [2, 3])))
        (.cond (.t 18)
          (.seq
            (.reg (law02_PageApart_r2 F) (some ([4], [])))
            .ret)
          .skip))
      (.seq
        (.reg (law02_PageApart_r3 F) (some ([2, 3, 5, 6], [2, 3])))
        (.seq
          (.reg (law02_PageApart_r4 F) (some ([2, 3, 5, 6, 7, 8], [2, 3])))
          (.seq
            (.seq
              (.reg law02_PageApart_r5 (some ([2, 3, 5, 6, 7, 8, 35], [2, 3])))
              (.cond (.t 35)
                (.seq
                  (.reg (law02_PageApart_r6 F) (some ([4], [])))
                  .ret)
                .skip))
            (.seq
              (.reg (law02_PageApart_r7 F) (some ([4], [])))
              .ret))))))
def law02_PageApart_k (P : Program) (F : Nat → Nat) : Prop := chkFn P (F 68) 2 (law02_PageApart_c F) [4] = true

/- lockkeeper/lockkeeperlaw02.PageNoughts : names 0 id, 1 many, 2 version, 3 id, 4 many, 5 version, 7 p, 8 s, 9 e, 10 q, 11 f, 12 t, 13 g uns [] -/
/- law.go:71 -/
def law02_PageNoughts_r0 : List AOper := [
  ⟨some 6, .val (.mov (.k (.bool false))), none⟩]
/- law.go:72 -/
def law02_PageNoughts_r1 : List AOper := [
  ⟨some 14, .val (.mov (.t 0)), none⟩,
  ⟨some 15, .val (.bin .rem true (.t 14) (.k (.int .u8 16))), none⟩,
  ⟨some 16, .val (.conv true .i64 (.t 15)), none⟩,
  ⟨some 17, .val (.bin .add true (.k (.int .i64 1)) (.t 16)), none⟩,
  ⟨some 18, .val (.mov (.t 2)), none⟩,
  ⟨some 19, .val (.bin .rem true (.t 18) (.k (.int .u32 1073741824))), none⟩,
  ⟨some 20, .val (.conv true .i64 (.t 19)), none⟩,
  ⟨some 21, .val (.bin .add true (.k (.int .i64 1)) (.t 20)), none⟩,
  ⟨some 22, .val (.mov (.t 1)), none⟩,
  ⟨some 23, .val (.bin .rem true (.t 22) (.k (.int .u8 17))), none⟩,
  ⟨some 24, .mk 1 1 [.int .u8 0] (.t 23), none⟩,
  ⟨some 25, .val (.b2s (.t 24)), none⟩,
  ⟨some 26, .val (.build 3 [.int .i64 0, .int .i64 0, .str []] [(0, 1, (.t 17)), (1, 1, (.t 21)), (2, 1, (.t 25))]), none⟩,
  ⟨some 7, .alloc 3 [.int .i64 0, .int .i64 0, .str []], none⟩,
  ⟨none, .stA true 3 (.t 7) (.t 26), none⟩]
/- law.go:73 -/
def law02_PageNoughts_r2 (F : Nat → Nat) : List AOper := [
  ⟨some 28, .val (.loadA 3 (.t 7)), none⟩,
  ⟨some 29, .call (F 58) [(.t 28)], none⟩,
  ⟨some 27, .val (.mov (.t 29)), none⟩,
  ⟨some 30, .val (.extr 0 (.t 27)), none⟩,
  ⟨some 31, .val (.extr 1 (.t 27)), none⟩,
  ⟨some 8, .val (.mov (.t 30)), none⟩,
  ⟨some 9, .val (.mov (.t 31)), none⟩]
/- law.go:74 -/
def law02_PageNoughts_r3 (F : Nat → Nat) : List AOper := [
  ⟨some 33, .val (.mov (.t 8)), none⟩,
  ⟨some 34, .call (F 61) [(.t 33)], none⟩,
  ⟨some 32, .val (.mov (.t 34)), none⟩,
  ⟨some 35, .val (.extr 0 (.t 32)), none⟩,
  ⟨some 36, .val (.extr 1 (.t 32)), none⟩,
  ⟨some 10, .alloc 3 [.int .i64 0, .int .i64 0, .str []], none⟩,
  ⟨none, .stA true 3 (.t 10) (.t 35), none⟩,
  ⟨some 11, .val (.mov (.t 36)), none⟩]
/- law.go:75 -/
def law02_PageNoughts_r4 : List AOper := [
  ⟨some 37, .val (.field 2 (.t 7)), none⟩,
  ⟨some 38, .val (.load1 (.t 37)), none⟩,
  ⟨some 39, .val (.bin .add false (.t 38) (.k (.str [0]))), none⟩,
  ⟨some 40, .val (.field 2 (.t 7)), none⟩,
  ⟨none, .st1 true (.t 40) (.t 39), none⟩]
/- law.go:76 -/
def law02_PageNoughts_r5 (F : Nat → Nat) : List AOper := [
  ⟨some 42, .val (.loadA 3 (.t 7)), none⟩,
  ⟨some 43, .call (F 58) [(.t 42)], none⟩,
  ⟨some 41, .val (.mov (.t 43)), none⟩,
  ⟨some 44, .val (.extr 0 (.t 41)), none⟩,
  ⟨some 45, .val (.extr 1 (.t 41)), none⟩,
  ⟨some 12, .val (.mov (.t 44)), none⟩,
  ⟨some 13, .val (.mov (.t 45)), none⟩]
/- law.go:77 -/
def law02_PageNoughts_r6 (F : Nat → Nat) : List AOper := [
  ⟨some 46, .val (.mov (.t 9)), none⟩,
  ⟨some 47, .val (.bin .eql false (.t 46) (.k (.int .i64 0))), none⟩,
  ⟨some 48, .val (.mov (.t 47)), none⟩,
  ⟨some 49, .val (.mov (.t 11)), some (48, true)⟩,
  ⟨some 50, .val (.bin .eql false (.t 49) (.k (.int .i64 0))), some (48, true)⟩,
  ⟨some 51, .val (.pand (.t 48) (.t 50)), none⟩,
  ⟨some 52, .val (.mov (.t 51)), none⟩,
  ⟨some 53, .val (.field 2 (.t 10)), some (52, true)⟩,
  ⟨some 54, .val (.load1 (.t 53)), some (52, true)⟩,
  ⟨some 55, .val (.lenT (.t 54)), some (52, true)⟩,
  ⟨some 56, .val (.mov (.t 1)), some (52, true)⟩,
  ⟨some 57, .val (.bin .rem true (.t 56) (.k (.int .u8 17))), some (52, true)⟩,
  ⟨some 58, .val (.conv true .i64 (.t 57)), some (52, true)⟩,
  ⟨some 59, .val (.bin .eql false (.t 55) (.t 58)), some (52, true)⟩,
  ⟨some 60, .val (.pand (.t 52) (.t 59)), none⟩,
  ⟨some 61, .val (.mov (.t 60)), none⟩,
  ⟨some 62, .val (.mov (.t 13)), some (61, true)⟩,
  ⟨some 63, .val (.bin .eql false (.t 62) (.k (.int .i64 0))), some (61, true)⟩,
  ⟨some 64, .val (.mov (.t 1)), some (61, true)⟩,
  ⟨some 65, .val (.bin .rem true (.t 64) (.k (.int .u8 17))), some (61, true)⟩,
  ⟨some 66, .val (.bin .lss false (.t 65) (.k (.int .u8 16))), some (61, true)⟩,
  ⟨some 67, .val (.eqB false (.t 63) (.t 66)), some (61, true)⟩,
  ⟨some 68, .val (.pand (.t 61) (.t 67)), none⟩,
  ⟨some 69, .val (.mov (.t 68)), none⟩,
  ⟨some 70, .val (.mov (.t 8)), some (69, true)⟩,
  ⟨some 71, .val (.mov (.t 12)), some (69, true)⟩,
  ⟨some 72, .val (.bin .neq false (.t 70) (.t 71)), some (69, true)⟩,
  ⟨some 73, .val (.pand (.t 69) (.t 72)), none⟩,
  ⟨some 74, .val (.mov (.t 73)), none⟩,
  ⟨some 75, .call (F 57) [], some (74, true)⟩,
  ⟨some 76, .val (.pand (.t 74) (.t 75)), none⟩,
  ⟨some 6, .val (.mov (.t 76)), none⟩]
def law02_PageNoughts_c (F : Nat → Nat) : ACode :=
  (.seq
    (.reg law02_PageNoughts_r0 (some ([0, 1, 2], [24])))
    (.seq
      (.reg law02_PageNoughts_r1 (some ([1, 7], [7, 24])))
      (.seq
        (.reg (law02_PageNoughts_r2 F) (some ([1, 7, 8, 9], [7, 24])))
        (.seq
          (.reg (law02_PageNoughts_r3 F) (some ([1, 7, 8, 9, 10, 11], [7, 10, 24])))
          (.seq
            (.reg law02_PageNoughts_r4 (some ([1, 7, 8, 9, 10, 11], [7, 10, 24])))
            (.seq
              (.reg (law02_PageNoughts_r5 F) (some ([1, 8, 9, 10, 11, 12, 13], [10, 24])))
              (.seq
                (.reg (law02_PageNoughts_r6 F) (some ([6], [24])))
                .ret)))))))
def law02_PageNoughts_k (P : Program) (F : Nat → Nat) : Prop := chkFn P (F 69) 3 (law02_PageNoughts_c F) [6] = true

/- lockkeeper/lockkeeperlaw02.PageForm : names 0 s, 1 p, 2 s, 3 p, 5 _, 6 e, 7 t, 8 f, 9 _, 10 g, 11 _, 12 h uns [] -/
/- law.go:81 -/
def law02_PageForm_r0 : List AOper := [
  ⟨some 3, .box 3 (.t 1), none⟩,
  ⟨some 4, .val (.mov (.k (.bool false))), none⟩]
/- law.go:82 -/
def law02_PageForm_r1 : List AOper := [
  ⟨some 13, .val (.mov (.t 0)), none⟩,
  ⟨some 14, .val (.lenT (.t 13)), none⟩,
  ⟨some 15, .val (.bin .gtr false (.t 14) (.k (.int .i64 100))), none⟩]
/- law.go:83 -/
def law02_PageForm_r2 (F : Nat → Nat) : List AOper := [
  ⟨some 16, .call (F 57) [], none⟩,
  ⟨some 4, .val (.mov (.t 16)), none⟩]
/- law.go:85 -/
def law02_PageForm_r3 (F : Nat → Nat) : List AOper := [
  ⟨some 18, .val (.mov (.t 0)), none⟩,
  ⟨some 19, .call (F 61) [(.t 18)], none⟩,
  ⟨some 17, .val (.mov (.t 19)), none⟩,
  ⟨some 20, .val (.extr 0 (.t 17)), none⟩,
  ⟨some 21, .val (.extr 1 (.t 17)), none⟩,
  ⟨some 5, .alloc 3 [.int .i64 0, .int .i64 0, .str []], none⟩,
  ⟨none, .stA true 3 (.t 5) (.t 20), none⟩,
  ⟨some 6, .val (.mov (.t 21)), none⟩]
/- law.go:86 -/
def law02_PageForm_r4 (F : Nat → Nat) : List AOper := [
  ⟨some 23, .val (.loadA 3 (.t 3)), none⟩,
  ⟨some 24, .call (F 58) [(.t 23)], none⟩,
  ⟨some 22, .val (.mov (.t 24)), none⟩,
  ⟨some 25, .val (.extr 0 (.t 22)), none⟩,
  ⟨some 26, .val (.extr 1 (.t 22)), none⟩,
  ⟨some 7, .val (.mov (.t 25)), none⟩,
  ⟨some 8, .val (.mov (.t 26)), none⟩]
/- law.go:87 -/
def law02_PageForm_r5 (F : Nat → Nat) : List AOper := [
  ⟨some 28, .val (.mov (.t 7)), none⟩,
  ⟨some 29, .val (.bin .add false (.t 28) (.k (.str [0]))), none⟩,
  ⟨some 30, .call (F 61) [(.t 29)], none⟩,
  ⟨some 27, .val (.mov (.t 30)), none⟩,
  ⟨some 31, .val (.extr 0 (.t 27)), none⟩,
  ⟨some 32, .val (.extr 1 (.t 27)), none⟩,
  ⟨some 9, .alloc 3 [.int .i64 0, .int .i64 0, .str []], none⟩,
  ⟨none, .stA true 3 (.t 9) (.t 31), none⟩,
  ⟨some 10, .val (.mov (.t 32)), none⟩]
/- law.go:88 -/
def law02_PageForm_r6 : List AOper := [
  ⟨some 33, .val (.mov (.t 0)), none⟩,
  ⟨some 34, .val (.lenT (.t 33)), none⟩,
  ⟨some 35, .val (.bin .neq false (.t 34) (.k (.int .i64 32))), none⟩,
  ⟨some 36, .val (.mov (.t 6)), none⟩,
  ⟨some 37, .val (.bin .eql false (.t 36) (.k (.int .i64 2))), none⟩,
  ⟨some 38, .val (.eqB true (.t 35) (.t 37)), none⟩,
  ⟨some 39, .val (.mov (.t 38)), none⟩,
  ⟨some 40, .val (.mov (.t 10)), some (39, false)⟩,
  ⟨some 41, .val (.bin .neq false (.t 40) (.k (.int .i64 2))), some (39, false)⟩,
  ⟨some 42, .val (.por (.t 39) (.t 41)), none⟩]
/- law.go:89 -/
def law02_PageForm_r7 : List AOper := [
  ⟨some 4, .val (.mov (.k (.bool false))), none⟩]
/- law.go:91 -/
def law02_PageForm_r8 : List AOper := [
  ⟨some 43, .val (.mov (.t 8)), none⟩,
  ⟨some 44, .val (.bin .neq false (.t 43) (.k (.int .i64 0))), none⟩,
  ⟨some 45, .val (.mov (.t 44)), none⟩,
  ⟨some 46, .val (.mov (.t 7)), some (45, false)⟩,
  ⟨some 47, .val (.lenT (.t 46)), some (45, false)⟩,
  ⟨some 48, .val (.bin .neq false (.t 47) (.k (.int .i64 32))), some (45, false)⟩,
  ⟨some 49, .val (.por (.t 45) (.t 48)), none⟩]
/- law.go:92 -/
def law02_PageForm_r9 (F : Nat → Nat) : List AOper := [
  ⟨some 50, .val (.mov (.t 8)), none⟩,
  ⟨some 51, .val (.bin .eql false (.t 50) (.k (.int .i64 1))), none⟩,
  ⟨some 52, .val (.mov (.t 51)), none⟩,
  ⟨some 53, .val (.mov (.t 7)), some (52, true)⟩,
  ⟨some 54, .val (.bin .eql false (.t 53) (.k (.str []))), some (52, true)⟩,
  ⟨some 55, .val (.pand (.t 52) (.t 54)), none⟩,
  ⟨some 56, .val (.mov (.t 55)), none⟩,
  ⟨some 57, .call (F 57) [], some (56, true)⟩,
  ⟨some 58, .val (.pand (.t 56) (.t 57)), none⟩,
  ⟨some 4, .val (.mov (.t 58)), none⟩]
/- law.go:94 -/
def law02_PageForm_r10 (F : Nat → Nat) : List AOper := [
  ⟨some 60, .val (.mov (.t 7)), none⟩,
  ⟨some 61, .val (.slT (.t 60) none (some (.k (.int .i64 31)))), none⟩,
  ⟨some 62, .call (F 61) [(.t 61)], none⟩,
  ⟨some 59, .val (.mov (.t 62)), none⟩,
  ⟨some 63, .val (.extr 0 (.t 59)), none⟩,
  ⟨some 64, .val (.extr 1 (.t 59)), none⟩,
  ⟨some 11, .alloc 3 [.int .i64 0, .int .i64 0, .str []], none⟩,
  ⟨none, .stA true 3 (.t 11) (.t 63), none⟩,
  ⟨some 12, .val (.mov (.t 64)), none⟩]
/- law.go:95 -/
def law02_PageForm_r11 (F : Nat → Nat) : List AOper := [
  ⟨some 65, .val (.mov (.t 12)), none⟩,
  ⟨some 66, .val (.bin .eql false (.t 65) (.k (.int .i64 2))), none⟩,
  ⟨some 67, .val (.mov (.t 66)), none⟩,
  ⟨some 68, .call (F 57) [], some (67, true)⟩,
  ⟨some 69, .val (.pand (.t 67) (.t 68)), none⟩,
  ⟨some 4, .val (.mov (.t 69)), none⟩]
def law02_PageForm_c (F : Nat → Nat) : ACode :=
  (.seq
    (.reg law02_PageForm_r0 (some ([0, 3], [3])))
    (.seq
      (.seq
        (.reg law02_PageForm_r1 (some ([0, 3, 15], [3])))
        (.cond (.t 15)
          (.seq
            (.reg (law02_PageForm_r2 F) (some ([4], [])))
            .ret)
          .skip))
      (.seq
        (.reg (law02_PageForm_r3 F) (some ([0, 3, 6], [3])))
        (.seq
          (.reg (law02_PageForm_r4 F) (some ([0, 6, 7, 8], [])))
          (.seq
            (.reg (law02_PageForm_r5 F) (some ([0, 6, 7, 8, 10], [])))
            (.seq
              (.seq
                (.reg law02_PageForm_r6 (some ([7, 8, 42], [])))
                (.cond (.t 42)
                  (.seq
                    (.reg law02_PageForm_r7 (some ([4], [])))
                    .ret)
                  .skip))
              (.seq
                (.seq
                  (.reg law02_PageForm_r8 (some ([7, 8, 49], [])))
                  (.cond (.t 49)
                    (.seq
                      (.reg (law02_PageForm_r9 F) (some ([4], [])))
                      .ret)
                    .skip))
                (.seq
                  (.reg (law02_PageForm_r10 F) (some ([12], [])))
                  (.seq
                    (.reg (law02_PageForm_r11 F) (some ([4], [])))
                    .ret)))))))))
def law02_PageForm_k (P : Program) (F : Nat → Nat) : Prop := chkFn P (F 70) 2 (law02_PageForm_c F) [4] = true

/- lockkeeper/lockkeeperlaw02.PageVersions : names 0 id, 1 a, 2 b, 3 body, 4 id, 5 a, 6 b, 7 body, 9 p, 10 q, 11 s, 12 e, 13 t, 14 f, 15 x, 16 g, 17 y, 18 h uns [] -/
/- law.go:99 -/
def law02_PageVersions_r0 : List AOper := [
  ⟨some 8, .val (.mov (.k (.bool false))), none⟩]
/- law.go:100 -/
def law02_PageVersions_r1 : List AOper := [
  ⟨some 19, .val (.mov (.t 3)), none⟩,
  ⟨some 20, .val (.lenT (.t 19)), none⟩,
  ⟨some 21, .val (.bin .gtr false (.t 20) (.k (.int .i64 16))), none⟩]
/- law.go:101 -/
def law02_PageVersions_r2 (F : Nat → Nat) : List AOper := [
  ⟨some 22, .call (F 57) [], none⟩,
  ⟨some 8, .val (.mov (.t 22)), none⟩]
/- law.go:103 -/
def law02_PageVersions_r3 : List AOper := [
  ⟨some 23, .val (.mov (.t 0)), none⟩,
  ⟨some 24, .val (.bin .rem true (.t 23) (.k (.int .u8 16))), none⟩,
  ⟨some 25, .val (.conv true .i64 (.t 24)), none⟩,
  ⟨some 26, .val (.bin .add true (.k (.int .i64 1)) (.t 25)), none⟩,
  ⟨some 27, .val (.mov (.t 1)), none⟩,
  ⟨some 28, .val (.bin .rem true (.t 27) (.k (.int .u32 1073741824))), none⟩,
  ⟨some 29, .val (.conv true .i64 (.t 28)), none⟩,
  ⟨some 30, .val (.bin .add true (.k (.int .i64 1)) (.t 29)), none⟩,
  ⟨some 31, .val (.mov (.t 3)), none⟩,
  ⟨some 32, .val (.build 3 [.int .i64 0, .int .i64 0, .str []] [(0, 1, (.t 26)), (1, 1, (.t 30)), (2, 1, (.t 31))]), none⟩,
  ⟨some 9, .alloc 3 [.int .i64 0, .int .i64 0, .str []], none⟩,
  ⟨none, .stA true 3 (.t 9) (.t 32), none⟩]
/- law.go:104 -/
def law02_PageVersions_r4 : List AOper := [
  ⟨some 33, .val (.loadA 3 (.t 9)), none⟩,
  ⟨some 10, .alloc 3 [.int .i64 0, .int .i64 0, .str []], none⟩,
  ⟨none, .stA true 3 (.t 10) (.t 33), none⟩]
/- law.go:105 -/
def law02_PageVersions_r5 : List AOper := [
  ⟨some 34, .val (.mov (.t 2)), none⟩,
  ⟨some 35, .val (.bin .rem true (.t 34) (.k (.int .u32 1073741824))), none⟩,
  ⟨some 36, .val (.conv true .i64 (.t 35)), none⟩,
  ⟨some 37, .val (.bin .add true (.k (.int .i64 1)) (.t 36)), none⟩,
  ⟨some 38, .val (.field 1 (.t 10)), none⟩,
  ⟨none, .st1 true (.t 38) (.t 37), none⟩]
/- law.go:106 -/
def law02_PageVersions_r6 (F : Nat → Nat) : List AOper := [
  ⟨some 40, .val (.loadA 3 (.t 9)), none⟩,
  ⟨some 41, .call (F 58) [(.t 40)], none⟩,
  ⟨some 39, .val (.mov (.t 41)), none⟩,
  ⟨some 42, .val (.extr 0 (.t 39)), none⟩,
  ⟨some 43, .val (.extr 1 (.t 39)), none⟩,
  ⟨some 11, .val (.mov (.t 42)), none⟩,
  ⟨some 12, .val (.mov (.t 43)), none⟩]
/- law.go:107 -/
def law02_PageVersions_r7 (F : Nat → Nat) : List AOper := [
  ⟨some 45, .val (.loadA 3 (.t 10)), none⟩,
  ⟨some 46, .call (F 58) [(.t 45)], none⟩,
  ⟨some 44, .val (.mov (.t 46)), none⟩,
  ⟨some 47, .val (.extr 0 (.t 44)), none⟩,
  ⟨some 48, .val (.extr 1 (.t 44)), none⟩,
  ⟨some 13, .val (.mov (.t 47)), none⟩,
  ⟨some 14, .val (.mov (.t 48)), none⟩]
/- law.go:108 -/
def law02_PageVersions_r8 (F : Nat → Nat) : List AOper := [
  ⟨some 50, .val (.mov (.t 11)), none⟩,
  ⟨some 51, .call (F 61) [(.t 50)], none⟩,
  ⟨some 49, .val (.mov (.t 51)), none⟩,
  ⟨some 52, .val (.extr 0 (.t 49)), none⟩,
  ⟨some 53, .val (.extr 1 (.t 49)), none⟩,
  ⟨some 15, .alloc 3 [.int .i64 0, .int .i64 0, .str []], none⟩,
  ⟨none, .stA true 3 (.t 15) (.t 52), none⟩,
  ⟨some 16, .val (.mov (.t 53)), none⟩]
/- law.go:109 -/
def law02_PageVersions_r9 (F : Nat → Nat) : List AOper := [
  ⟨some 55, .val (.mov (.t 13)), none⟩,
  ⟨some 56, .call (F 61) [(.t 55)], none⟩,
  ⟨some 54, .val (.mov (.t 56)), none⟩,
  ⟨some 57, .val (.extr 0 (.t 54)), none⟩,
  ⟨some 58, .val (.extr 1 (.t 54)), none⟩,
  ⟨some 17, .alloc 3 [.int .i64 0, .int .i64 0, .str []], none⟩,
  ⟨none, .stA true 3 (.t 17) (.t 57), none⟩,
  ⟨some 18, .val (.mov (.t 58)), none⟩]
/- law.go:110 -/
def law02_PageVersions_r10 (F : Nat → Nat) : List AOper := [
  ⟨some 59, .val (.mov (.t 12)), none⟩,
  ⟨some 60, .val (.bin .eql false (.t 59) (.k (.int .i64 0))), none⟩,
  ⟨some 61, .val (.mov (.t 60)), none⟩,
  ⟨some 62, .val (.mov (.t 14)), some (61, true)⟩,
  ⟨some 63, .val (.bin .eql false (.t 62) (.k (.int .i64 0))), some (61, true)⟩,
  ⟨some 64, .val (.pand (.t 61) (.t 63)), none⟩,
  ⟨some 65, .val (.mov (.t 64)), none⟩,
  ⟨some 66, .val (.mov (.t 16)), some (65, true)⟩,
  ⟨some 67, .val (.bin .eql false (.t 66) (.k (.int .i64 0))), some (65, true)⟩,
  ⟨some 68, .val (.pand (.t 65) (.t 67)), none⟩,
  ⟨some 69, .val (.mov (.t 68)), none⟩,
  ⟨some 70, .val (.mov (.t 18)), some (69, true)⟩,
  ⟨some 71, .val (.bin .eql false (.t 70) (.k (.int .i64 0))), some (69, true)⟩,
  ⟨some 72, .val (.pand (.t 69) (.t 71)), none⟩,
  ⟨some 73, .val (.mov (.t 72)), none⟩,
  ⟨some 74, .val (.loadA 3 (.t 15)), some (73, true)⟩,
  ⟨some 75, .val (.loadA 3 (.t 9)), some (73, true)⟩,
  ⟨some 76, .val (.eqA false [0, 0, 2] (.t 74) (.t 75)), some (73, true)⟩,
  ⟨some 77, .val (.pand (.t 73) (.t 76)), none⟩,
  ⟨some 78, .val (.mov (.t 77)), none⟩,
  ⟨some 79, .val (.loadA 3 (.t 17)), some (78, true)⟩,
  ⟨some 80, .val (.loadA 3 (.t 10)), some (78, true)⟩,
  ⟨some 81, .val (.eqA false [0, 0, 2] (.t 79) (.t 80)), some (78, true)⟩,
  ⟨some 82, .val (.pand (.t 78) (.t 81)), none⟩,
  ⟨some 83, .val (.mov (.t 82)), none⟩,
  ⟨some 84, .val (.mov (.t 11)), some (83, true)⟩,
  ⟨some 85, .val (.mov (.t 13)), some (83, true)⟩,
  ⟨some 86, .val (.bin .eql false (.t 84) (.t 85)), some (83, true)⟩,
  ⟨some 87, .val (.field 1 (.t 9)), some (83, true)⟩,
  ⟨some 88, .val (.load1 (.t 87)), some (83, true)⟩,
  ⟨some 89, .val (.field 1 (.t 10)), some (83, true)⟩,
  ⟨some 90, .val (.load1 (.t 89)), some (83, true)⟩,
  ⟨some 91, .val (.bin .eql false (.t 88) (.t 90)), some (83, true)⟩,
  ⟨some 92, .val (.eqB false (.t 86) (.t 91)), some (83, true)⟩,
  ⟨some 93, .val (.pand (.t 83) (.t 92)), none⟩,
  ⟨some 94, .val (.mov (.t 93)), none⟩,
  ⟨some 95, .call (F 57) [], some (94, true)⟩,
  ⟨some 96, .val (.pand (.t 94) (.t 95)), none⟩,
  ⟨some 8, .val (.mov (.t 96)), none⟩]
def law02_PageVersions_c (F : Nat → Nat) : ACode :=
  (.seq
    (.reg law02_PageVersions_r0 (some ([0, 1, 2, 3], [])))
    (.seq
      (.seq
        (.reg law02_PageVersions_r1 (some ([0, 1, 2, 3, 21], [])))
        (.cond (.t 21)
          (.seq
            (.reg (law02_PageVersions_r2 F) (some ([8], [])))
            .ret)
          .skip))
      (.seq
        (.reg law02_PageVersions_r3 (some ([2, 9], [9])))
        (.seq
          (.reg law02_PageVersions_r4 (some ([2, 9, 10], [9, 10])))
          (.seq
            (.reg law02_PageVersions_r5 (some ([9, 10], [9, 10])))
            (.seq
              (.reg (law02_PageVersions_r6 F) (some ([9, 10, 11, 12], [9, 10])))
              (.seq
                (.reg (law02_PageVersions_r7 F) (some ([9, 10, 11, 12, 13, 14], [9, 10])))
                (.seq
                  (.reg (law02_PageVersions_r8 F) (some ([9, 10, 11, 12, 13, 14, 15, 16], [9, 10, 15])))
                  (.seq
                    (.reg (law02_PageVersions_r9 F) (some ([9, 10, 11, 12, 13, 14, 15, 16, 17, 18], [9, 10, 15, 17])))
                    (.seq
                      (.reg (law02_PageVersions_r10 F) (some ([8], [])))
                      .ret))))))))))
def law02_PageVersions_k (P : Program) (F : Nat → Nat) : Prop := chkFn P (F 71) 4 (law02_PageVersions_c F) [8] = true

/- lockkeeper/lockkeeperlaw02.awake : names 1 s, 2 e, 3 p, 4 f, 5 _, 6 g uns [] -/
/- law.go:11 -/
def law02_awake_r0 : List AOper := [
  ⟨some 0, .val (.mov (.k (.bool false))), none⟩]
/- law.go:12 -/
def law02_awake_r1 (F : Nat → Nat) : List AOper := [
  ⟨some 8, .val (.build 3 [.int .i64 0, .int .i64 0, .str []] [(0, 1, (.k (.int .i64 3))), (1, 1, (.k (.int .i64 7))), (2, 1, (.k (.str [97, 98])))]), none⟩,
  ⟨some 9, .call (F 58) [(.t 8)], none⟩,
  ⟨some 7, .val (.mov (.t 9)), none⟩,
  ⟨some 10, .val (.extr 0 (.t 7)), none⟩,
  ⟨some 11, .val (.extr 1 (.t 7)), none⟩,
  ⟨some 1, .val (.mov (.t 10)), none⟩,
  ⟨some 2, .val (.mov (.t 11)), none⟩]
/- law.go:13 -/
def law02_awake_r2 (F : Nat → Nat) : List AOper := [
  ⟨some 13, .val (.mov (.t 1)), none⟩,
  ⟨some 14, .call (F 61) [(.t 13)], none⟩,
  ⟨some 12, .val (.mov (.t 14)), none⟩,
  ⟨some 15, .val (.extr 0 (.t 12)), none⟩,
  ⟨some 16, .val (.extr 1 (.t 12)), none⟩,
  ⟨some 3, .alloc 3 [.int .i64 0, .int .i64 0, .str []], none⟩,
  ⟨none, .stA true 3 (.t 3) (.t 15), none⟩,
  ⟨some 4, .val (.mov (.t 16)), none⟩]
/- law.go:14 -/
def law02_awake_r3 (F : Nat → Nat) : List AOper := [
  ⟨some 18, .call (F 61) [(.k (.str [120]))], none⟩,
  ⟨some 17, .val (.mov (.t 18)), none⟩,
  ⟨some 19, .val (.extr 0 (.t 17)), none⟩,
  ⟨some 20, .val (.extr 1 (.t 17)), none⟩,
  ⟨some 5, .alloc 3 [.int .i64 0, .int .i64 0, .str []], none⟩,
  ⟨none, .stA true 3 (.t 5) (.t 19), none⟩,
  ⟨some 6, .val (.mov (.t 20)), none⟩]
/- law.go:15 -/
def law02_awake_r4 : List AOper := [
  ⟨some 21, .val (.mov (.t 1)), none⟩,
  ⟨some 22, .val (.lenT (.t 21)), none⟩,
  ⟨some 23, .val (.bin .eql false (.t 22) (.k (.int .i64 32))), none⟩,
  ⟨some 24, .val (.mov (.t 23)), none⟩,
  ⟨some 25, .val (.mov (.t 1)), some (24, true)⟩,
  ⟨some 26, .val (.idx (.t 25) (.k (.int .i64 0))), some (24, true)⟩,
  ⟨some 27, .val (.bin .eql false (.t 26) (.k (.int .u8 3))), some (24, true)⟩,
  ⟨some 28, .val (.pand (.t 24) (.t 27)), none⟩,
  ⟨some 29, .val (.mov (.t 28)), none⟩,
  ⟨some 30, .val (.mov (.t 1)), some (29, true)⟩,
  ⟨some 31, .val (.slT (.t 30) (some (.k (.int .i64 16))) (some (.k (.int .i64 18)))), some (29, true)⟩,
  ⟨some 32, .val (.bin .eql false (.t 31) (.k (.str [97, 98]))), some (29, true)⟩,
  ⟨some 33, .val (.pand (.t 29) (.t 32)), none⟩,
  ⟨some 34, .val (.mov (.t 33)), none⟩,
  ⟨some 35, .val (.mov (.t 2)), some (34, true)⟩,
  ⟨some 36, .val (.bin .eql false (.t 35) (.k (.int .i64 0))), some (34, true)⟩,
  ⟨some 37, .val (.pand (.t 34) (.t 36)), none⟩,
  ⟨some 38, .val (.mov (.t 37)), none⟩,
  ⟨some 39, .val (.loadA 3 (.t 3)), some (38, true)⟩,
  ⟨some 40, .val (.build 3 [.int .i64 0, .int .i64 0, .str []] [(0, 1, (.k (.int .i64 3))), (1, 1, (.k (.int .i64 7))), (2, 1, (.k (.str [97, 98])))]), some (38, true)⟩,
  ⟨some 41, .val (.eqA false [0, 0, 2] (.t 39) (.t 40)), some (38, true)⟩,
  ⟨some 42, .val (.pand (.t 38) (.t 41)), none⟩,
  ⟨some 43, .val (.mov (.t 42)), none⟩,
  ⟨some 44, .val (.mov (.t 4)), some (43, true)⟩,
  ⟨some 45, .val (.bin .eql false (.t 44) (.k (.int .i64 0))), some (43, true)⟩,
  ⟨some 46, .val (.pand (.t 43) (.t 45)), none⟩,
  ⟨some 47, .val (.mov (.t 46)), none⟩,
  ⟨some 48, .val (.mov (.t 6)), some (47, true)⟩,
  ⟨some 49, .val (.bin .eql false (.t 48) (.k (.int .i64 2))), some (47, true)⟩,
  ⟨some 50, .val (.pand (.t 47) (.t 49)), none⟩,
  ⟨some 0, .val (.mov (.t 50)), none⟩]
def law02_awake_c (F : Nat → Nat) : ACode :=
  (.seq
    (.reg law02_awake_r0 (some ([], [])))
    (.seq
      (.reg (law02_awake_r1 F) (some ([1, 2], [])))
      (.seq
        (.reg (law02_awake_r2 F) (some ([1, 2, 3, 4], [3])))
        (.seq
          (.reg (law02_awake_r3 F) (some ([1, 2, 3, 4, 6], [3])))
          (.seq
            (.reg law02_awake_r4 (some ([0], [])))
            .ret)))))
def law02_awake_k (P : Program) (F : Nat → Nat) : Prop := chkFn P (F 57) 0 (law02_awake_c F) [0] = true

/- lockkeeper/page.Put : names 0 p, 1 p, 4 head, 5 tail, 6 check, 7 _ uns [] -/
/- page.go:32 -/
def page_Put_r0 : List AOper := [
  ⟨some 1, .box 3 (.t 0), none⟩,
  ⟨some 2, .val (.mov (.k (.str []))), none⟩,
  ⟨some 3, .val (.mov (.k (.int .i64 0))), none⟩]
/- page.go:33 -/
def page_Put_r1 (F : Nat → Nat) : List AOper := [
  ⟨some 8, .val (.loadA 3 (.t 1)), none⟩,
  ⟨some 9, .call (F 60) [(.t 8)], none⟩,
  ⟨some 10, .val (.not (.t 9)), none⟩]
/- page.go:34 -/
def page_Put_r2 : List AOper := [
  ⟨some 2, .val (.mov (.k (.str []))), none⟩,
  ⟨some 3, .val (.mov (.k (.int .i64 1))), none⟩]
/- page.go:36 DRAWS -/
def page_Put_r3 (F : Nat → Nat) : List AOper := [
  ⟨some 11, .val (.field 0 (.t 1)), none⟩,
  ⟨some 12, .val (.load1 (.t 11)), none⟩,
  ⟨some 13, .call (F 72) [(.t 12)], none⟩,
  ⟨some 14, .val (.field 1 (.t 1)), none⟩,
  ⟨some 15, .val (.load1 (.t 14)), none⟩,
  ⟨some 16, .call (F 72) [(.t 15)], none⟩,
  ⟨some 17, .val (.bin .add false (.t 13) (.t 16)), none⟩,
  ⟨some 18, .val (.field 2 (.t 1)), none⟩,
  ⟨some 19, .val (.load1 (.t 18)), none⟩,
  ⟨some 20, .val (.lenT (.t 19)), none⟩,
  ⟨some 21, .call (F 72) [(.t 20)], none⟩,
  ⟨some 22, .val (.bin .add false (.t 17) (.t 21)), none⟩,
  ⟨some 4, .val (.mov (.t 22)), none⟩]
/- page.go:37 DRAWS -/
def page_Put_r4 (F : Nat → Nat) : List AOper := [
  ⟨some 23, .val (.field 2 (.t 1)), none⟩,
  ⟨some 24, .val (.load1 (.t 23)), none⟩,
  ⟨some 25, .val (.field 2 (.t 1)), none⟩,
  ⟨some 26, .val (.load1 (.t 25)), none⟩,
  ⟨some 27, .val (.lenT (.t 26)), none⟩,
  ⟨some 28, .val (.bin .sub true (.k (.int .i64 16)) (.t 27)), none⟩,
  ⟨some 29, .call (F 49) [(.k (.str [0])), (.t 28)], none⟩,
  ⟨some 30, .val (.bin .add false (.t 24) (.t 29)), none⟩,
  ⟨some 5, .val (.mov (.t 30)), none⟩]
/- page.go:38 -/
def page_Put_r5 (F : Nat → Nat) : List AOper := [
  ⟨some 32, .call (F 19) [], none⟩,
  ⟨some 33, .val (.mov (.t 4)), none⟩,
  ⟨some 34, .val (.mov (.t 5)), none⟩,
  ⟨some 35, .val (.bin .add false (.t 33) (.t 34)), none⟩,
  ⟨some 36, .call (F 21) [(.t 32), (.t 35)], none⟩,
  ⟨some 31, .val (.mov (.t 36)), none⟩,
  ⟨some 37, .val (.extr 0 (.t 31)), none⟩,
  ⟨some 38, .val (.extr 1 (.t 31)), none⟩,
  ⟨some 6, .val (.mov (.t 37)), none⟩,
  ⟨some 7, .val (.mov (.t 38)), none⟩]
/- page.go:39 -/
def page_Put_r6 (F : Nat → Nat) : List AOper := [
  ⟨some 39, .val (.mov (.t 4)), none⟩,
  ⟨some 40, .val (.mov (.t 6)), none⟩,
  ⟨some 41, .call (F 72) [(.t 40)], none⟩,
  ⟨some 42, .val (.bin .add false (.t 39) (.t 41)), none⟩,
  ⟨some 43, .val (.mov (.t 5)), none⟩,
  ⟨some 44, .val (.bin .add false (.t 42) (.t 43)), none⟩,
  ⟨some 2, .val (.mov (.t 44)), none⟩,
  ⟨some 3, .val (.mov (.k (.int .i64 0))), none⟩]
def page_Put_c (F : Nat → Nat) : ACode :=
  (.seq
    (.reg page_Put_r0 (some ([1], [1])))
    (.seq
      (.seq
        (.reg (page_Put_r1 F) (some ([1, 10], [1])))
        (.cond (.t 10)
          (.seq
            (.reg page_Put_r2 (some ([2, 3], [])))
            .ret)
          .skip))
      (.seq
        (.regD (page_Put_r3 F) [(2, 3), (2, 4), (2, 7), (5, 7), (2, 8), (5, 8), (2, 9), (5, 9), (6, 10)] (some ([1, 4], [1])))
        (.seq
          (.regD (page_Put_r4 F) [(0, 6), (1, 6)] (some ([4, 5], [])))
          (.seq
            (.reg (page_Put_r5 F) (some ([4, 5, 6], [])))
            (.seq
              (.reg (page_Put_r6 F) (some ([2, 3], [])))
              .ret))))))
def page_Put_k (P : Program) (F : Nat → Nat) : Prop := chkFn P (F 58) 1 (page_Put_c F) [2, 3] = true

/- lockkeeper/lockkeeperref02.Right : names 0 p, 1 p uns [] -/
/- ref.go:15 -/
def ref02_Right_r0 : List AOper := [
  ⟨some 1, .box 3 (.t 0), none⟩,
  ⟨some 2, .val (.mov (.k (.bool false))), none⟩]
/- ref.go:16 -/
def ref02_Right_r1 : List AOper := [
  ⟨some 3, .val (.field 0 (.t 1)), none⟩,
  ⟨some 4, .val (.load1 (.t 3)), none⟩,
  ⟨some 5, .val (.bin .gtr false (.t 4) (.k (.int .i64 0))), none⟩,
  ⟨some 6, .val (.mov (.t 5)), none⟩,
  ⟨some 7, .val (.field 0 (.t 1)), some (6, true)⟩,
  ⟨some 8, .val (.load1 (.t 7)), some (6, true)⟩,
  ⟨some 9, .val (.bin .lss false (.t 8) (.k (.int .i64 17))), some (6, true)⟩,
  ⟨some 10, .val (.pand (.t 6) (.t 9)), none⟩,
  ⟨some 11, .val (.mov (.t 10)), none⟩,
  ⟨some 12, .val (.field 1 (.t 1)), some (11, true)⟩,
  ⟨some 13, .val (.load1 (.t 12)), some (11, true)⟩,
  ⟨some 14, .val (.bin .gtr false (.t 13) (.k (.int .i64 0))), some (11, true)⟩,
  ⟨some 15, .val (.pand (.t 11) (.t 14)), none⟩,
  ⟨some 16, .val (.mov (.t 15)), none⟩,
  ⟨some 17, .val (.field 1 (.t 1)), some (16, true)⟩,
  ⟨some 18, .val (.load1 (.t 17)), some (16, true)⟩,
  ⟨some 19, .val (.bin .lss false (.t 18) (.k (.int .i64 2147483648))), some (16, true)⟩,
  ⟨some 20, .val (.pand (.t 16) (.t 19)), none⟩,
  ⟨some 21, .val (.mov (.t 20)), none⟩,
  ⟨some 22, .val (.field 2 (.t 1)), some (21, true)⟩,
  ⟨some 23, .val (.load1 (.t 22)), some (21, true)⟩,
  ⟨some 24, .val (.lenT (.t 23)), some (21, true)⟩,
  ⟨some 25, .val (.bin .lss false (.t 24) (.k (.int .i64 17))), some (21, true)⟩,
  ⟨some 26, .val (.pand (.t 21) (.t 25)), none⟩,
  ⟨some 2, .val (.mov (.t 26)), none⟩]
def ref02_Right_c : ACode :=
  (.seq
    (.reg ref02_Right_r0 (some ([1], [1])))
    (.seq
      (.reg ref02_Right_r1 (some ([2], [])))
      .ret))
def ref02_Right_k (P : Program) (F : Nat → Nat) : Prop := chkFn P (F 59) 1 (ref02_Right_c) [2] = true

/- lockkeeper/page.Right : names 0 p, 1 p uns [] -/
/- page.go:21 -/
def page_Right_r0 : List AOper := [
  ⟨some 1, .box 3 (.t 0), none⟩,
  ⟨some 2, .val (.mov (.k (.bool false))), none⟩]
/- page.go:22 -/
def page_Right_r1 : List AOper := [
  ⟨some 3, .val (.field 0 (.t 1)), none⟩,
  ⟨some 4, .val (.load1 (.t 3)), none⟩,
  ⟨some 5, .val (.bin .lss false (.t 4) (.k (.int .i64 1))), none⟩,
  ⟨some 6, .val (.mov (.t 5)), none⟩,
  ⟨some 7, .val (.field 0 (.t 1)), some (6, false)⟩,
  ⟨some 8, .val (.load1 (.t 7)), some (6, false)⟩,
  ⟨some 9, .val (.bin .gtr false (.t 8) (.k (.int .i64 16))), some (6, false)⟩,
  ⟨some 10, .val (.por (.t 6) (.t 9)), none⟩]
/- page.go:23 -/
def page_Right_r2 : List AOper := [
  ⟨some 2, .val (.mov (.k (.bool false))), none⟩]
/- page.go:25 -/
def page_Right_r3 : List AOper := [
  ⟨some 11, .val (.field 1 (.t 1)), none⟩,
  ⟨some 12, .val (.load1 (.t 11)), none⟩,
  ⟨some 13, .val (.bin .lss false (.t 12) (.k (.int .i64 1))), none⟩,
  ⟨some 14, .val (.mov (.t 13)), none⟩,
  ⟨some 15, .val (.field 1 (.t 1)), some (14, false)⟩,
  ⟨some 16, .val (.load1 (.t 15)), some (14, false)⟩,
  ⟨some 17, .val (.bin .gtr false (.t 16) (.k (.int .i64 2147483647))), some (14, false)⟩,
  ⟨some 18, .val (.por (.t 14) (.t 17)), none⟩]
/- page.go:26 -/
def page_Right_r4 : List AOper := [
  ⟨some 2, .val (.mov (.k (.bool false))), none⟩]
/- page.go:28 -/
def page_Right_r5 : List AOper := [
  ⟨some 19, .val (.field 2 (.t 1)), none⟩,
  ⟨some 20, .val (.load1 (.t 19)), none⟩,
  ⟨some 21, .val (.lenT (.t 20)), none⟩,
  ⟨some 22, .val (.bin .leq false (.t 21) (.k (.int .i64 16))), none⟩,
  ⟨some 2, .val (.mov (.t 22)), none⟩]
def page_Right_c : ACode :=
  (.seq
    (.reg page_Right_r0 (some ([1], [1])))
    (.seq
      (.seq
        (.reg page_Right_r1 (some ([1, 10], [1])))
        (.cond (.t 10)
          (.seq
            (.reg page_Right_r2 (some ([2], [])))
            .ret)
          .skip))
      (.seq
        (.seq
          (.reg page_Right_r3 (some ([1, 18], [1])))
          (.cond (.t 18)
            (.seq
              (.reg page_Right_r4 (some ([2], [])))
              .ret)
            .skip))
        (.seq
          (.reg page_Right_r5 (some ([2], [])))
          .ret))))
def page_Right_k (P : Program) (F : Nat → Nat) : Prop := chkFn P (F 60) 1 (page_Right_c) [2] = true

/- lockkeeper/page.Take : names 0 s, 1 s, 4 length, 5 p, 6 own, 7 e uns [] -/
/- page.go:43 -/
def page_Take_r0 : List AOper := [
  ⟨some 2, .alloc 3 [.int .i64 0, .int .i64 0, .str []], none⟩,
  ⟨some 3, .val (.mov (.k (.int .i64 0))), none⟩]
/- page.go:44 -/
def page_Take_r1 : List AOper := [
  ⟨some 8, .val (.mov (.t 0)), none⟩,
  ⟨some 9, .val (.lenT (.t 8)), none⟩,
  ⟨some 10, .val (.bin .neq false (.t 9) (.k (.int .i64 32))), none⟩]
/- page.go:45 -/
def page_Take_r2 : List AOper := [
  ⟨some 11, .val (.build 3 [.int .i64 0, .int .i64 0, .str []] []), none⟩,
  ⟨none, .stA true 3 (.t 2) (.t 11), none⟩,
  ⟨some 3, .val (.mov (.k (.int .i64 2))), none⟩]
/- page.go:47 -/
def page_Take_r3 (F : Nat → Nat) : List AOper := [
  ⟨some 12, .val (.mov (.t 0)), none⟩,
  ⟨some 13, .call (F 49) [(.k (.str [0])), (.k (.int .i64 32))], none⟩,
  ⟨some 14, .val (.bin .eql false (.t 12) (.t 13)), none⟩]
/- page.go:48 -/
def page_Take_r4 : List AOper := [
  ⟨some 15, .val (.build 3 [.int .i64 0, .int .i64 0, .str []] []), none⟩,
  ⟨none, .stA true 3 (.t 2) (.t 15), none⟩,
  ⟨some 3, .val (.mov (.k (.int .i64 3))), none⟩]
/- page.go:50 -/
def page_Take_r5 (F : Nat → Nat) : List AOper := [
  ⟨some 16, .val (.mov (.t 0)), none⟩,
  ⟨some 17, .call (F 73) [(.t 16), (.k (.int .i64 8))], none⟩,
  ⟨some 4, .val (.mov (.t 17)), none⟩]
/- page.go:51 -/
def page_Take_r6 : List AOper := [
  ⟨some 18, .val (.mov (.t 4)), none⟩,
  ⟨some 19, .val (.bin .gtr false (.t 18) (.k (.int .i64 16))), none⟩]
/- page.go:52 -/
def page_Take_r7 : List AOper := [
  ⟨some 20, .val (.build 3 [.int .i64 0, .int .i64 0, .str []] []), none⟩,
  ⟨none, .stA true 3 (.t 2) (.t 20), none⟩,
  ⟨some 3, .val (.mov (.k (.int .i64 9))), none⟩]
/- page.go:54 DRAWS -/
def page_Take_r8 (F : Nat → Nat) : List AOper := [
  ⟨some 21, .val (.mov (.t 0)), none⟩,
  ⟨some 22, .call (F 73) [(.t 21), (.k (.int .i64 0))], none⟩,
  ⟨some 23, .val (.mov (.t 0)), none⟩,
  ⟨some 24, .call (F 73) [(.t 23), (.k (.int .i64 4))], none⟩,
  ⟨some 25, .val (.mov (.t 0)), none⟩,
  ⟨some 26, .val (.mov (.t 4)), none⟩,
  ⟨some 27, .val (.bin .add true (.k (.int .i64 16)) (.t 26)), none⟩,
  ⟨some 28, .val (.slT (.t 25) (some (.k (.int .i64 16))) (some (.t 27))), none⟩,
  ⟨some 29, .val (.build 3 [.int .i64 0, .int .i64 0, .str []] [(0, 1, (.t 22)), (1, 1, (.t 24)), (2, 1, (.t 28))]), none⟩,
  ⟨some 5, .alloc 3 [.int .i64 0, .int .i64 0, .str []], none⟩,
  ⟨none, .stA true 3 (.t 5) (.t 29), none⟩]
/- page.go:60 -/
def page_Take_r9 (F : Nat → Nat) : List AOper := [
  ⟨some 31, .val (.loadA 3 (.t 5)), none⟩,
  ⟨some 32, .call (F 58) [(.t 31)], none⟩,
  ⟨some 30, .val (.mov (.t 32)), none⟩,
  ⟨some 33, .val (.extr 0 (.t 30)), none⟩,
  ⟨some 34, .val (.extr 1 (.t 30)), none⟩,
  ⟨some 6, .val (.mov (.t 33)), none⟩,
  ⟨some 7, .val (.mov (.t 34)), none⟩]
/- page.go:60 -/
def page_Take_r10 : List AOper := [
  ⟨some 35, .val (.mov (.t 7)), none⟩,
  ⟨some 36, .val (.bin .neq false (.t 35) (.k (.int .i64 0))), none⟩,
  ⟨some 37, .val (.mov (.t 36)), none⟩,
  ⟨some 38, .val (.mov (.t 6)), some (37, false)⟩,
  ⟨some 39, .val (.mov (.t 0)), some (37, false)⟩,
  ⟨some 40, .val (.bin .neq false (.t 38) (.t 39)), some (37, false)⟩,
  ⟨some 41, .val (.por (.t 37) (.t 40)), none⟩]
/- page.go:61 -/
def page_Take_r11 : List AOper := [
  ⟨some 42, .val (.build 3 [.int .i64 0, .int .i64 0, .str []] []), none⟩,
  ⟨none, .stA true 3 (.t 2) (.t 42), none⟩,
  ⟨some 3, .val (.mov (.k (.int .i64 9))), none⟩]
/- page.go:63 -/
def page_Take_r12 : List AOper := [
  ⟨some 43, .val (.loadA 3 (.t 5)), none⟩,
  ⟨none, .stA true 3 (.t 2) (.t 43), none⟩,
  ⟨some 3, .val (.mov (.k (.int .i64 0))), none⟩]
def page_Take_c (F : Nat → Nat) : ACode :=
  (.seq
    (.reg page_Take_r0 (some ([0, 2], [2])))
    (.seq
      (.seq
        (.reg page_Take_r1 (some ([0, 2, 10], [2])))
        (.cond (.t 10)
          (.seq
            (.reg page_Take_r2 (some ([2, 3], [2])))
            .ret)
          .skip))
      (.seq
        (.seq
          (.reg (page_Take_r3 F) (some ([0, 2, 14], [2])))
          (.cond (.t 14)
            (.seq
              (.reg page_Take_r4 (some ([2, 3], [2])))
              .ret)
            .skip))
        (.seq
          (.reg (page_Take_r5 F) (some ([0, 2, 4], [2])))
          (.seq
            (.seq
              (.reg page_Take_r6 (some ([0, 2, 4, 19], [2])))
              (.cond (.t 19)
                (.seq
                  (.reg page_Take_r7 (some ([2, 3], [2])))
                  .ret)
                .skip))
            (.seq
              (.regD (page_Take_r8 F) [(1, 2), (1, 4), (3, 4), (1, 5), (3, 5), (1, 6), (3, 6), (1, 7), (3, 7), (0, 9), (1, 9), (2, 9), (3, 9), (4, 9), (5, 9), (6, 9), (7, 9), (8, 9)] (some ([0, 2, 5], [2, 5])))
              (.seq
                (.seq
                  (.reg (page_Take_r9 F) (some ([0, 2, 5, 6, 7], [2, 5])))
                  (.seq
                    (.reg page_Take_r10 (some ([2, 5, 41], [2, 5])))
                    (.cond (.t 41)
                      (.seq
                        (.reg page_Take_r11 (some ([2, 3], [2])))
                        .ret)
                      .skip)))
                (.seq
                  (.reg page_Take_r12 (some ([2, 3], [2])))
                  .ret))))))))
def page_Take_k (P : Program) (F : Nat → Nat) : Prop := chkFn P (F 61) 1 (page_Take_c F) [.loadA 3 (.t 2), 3] = true

/- lockkeeper/lockkeeperref02.Put : names 0 p, 1 p, 3 head, 4 body uns [] -/
/- ref.go:20 -/
def ref02_Put_r0 : List AOper := [
  ⟨some 1, .box 3 (.t 0), none⟩,
  ⟨some 2, .val (.mov (.k (.str []))), none⟩]
/- ref.go:21 DRAWS -/
def ref02_Put_r1 (F : Nat → Nat) : List AOper := [
  ⟨some 5, .val (.field 0 (.t 1)), none⟩,
  ⟨some 6, .val (.load1 (.t 5)), none⟩,
  ⟨some 7, .call (F 74) [(.t 6)], none⟩,
  ⟨some 8, .val (.field 1 (.t 1)), none⟩,
  ⟨some 9, .val (.load1 (.t 8)), none⟩,
  ⟨some 10, .call (F 74) [(.t 9)], none⟩,
  ⟨some 11, .val (.bin .add false (.t 7) (.t 10)), none⟩,
  ⟨some 12, .val (.field 2 (.t 1)), none⟩,
  ⟨some 13, .val (.load1 (.t 12)), none⟩,
  ⟨some 14, .val (.lenT (.t 13)), none⟩,
  ⟨some 15, .call (F 74) [(.t 14)], none⟩,
  ⟨some 16, .val (.bin .add false (.t 11) (.t 15)), none⟩,
  ⟨some 3, .val (.mov (.t 16)), none⟩]
/- ref.go:22 -/
def ref02_Put_r2 : List AOper := [
  ⟨some 17, .val (.field 2 (.t 1)), none⟩,
  ⟨some 18, .val (.load1 (.t 17)), none⟩,
  ⟨some 4, .val (.mov (.t 18)), none⟩]
/- ref.go:23 -/
def ref02_Put_r3 : List AOper := [
  ⟨some 19, .val (.mov (.t 4)), none⟩,
  ⟨some 20, .val (.lenT (.t 19)), none⟩,
  ⟨some 21, .val (.bin .lss false (.t 20) (.k (.int .i64 16))), none⟩]
/- ref.go:24 -/
def ref02_Put_r4 : List AOper := [
  ⟨some 22, .val (.mov (.t 4)), none⟩,
  ⟨some 23, .buildS 1 1 [.int .u8 0] [(0, (.k (.int .u8 0)))], none⟩,
  ⟨some 24, .val (.b2s (.t 23)), none⟩,
  ⟨some 25, .val (.bin .add false (.t 22) (.t 24)), none⟩,
  ⟨some 4, .val (.mov (.t 25)), none⟩]
/- ref.go:26 -/
def ref02_Put_r5 (F : Nat → Nat) : List AOper := [
  ⟨some 26, .val (.mov (.t 3)), none⟩,
  ⟨some 27, .val (.mov (.t 3)), none⟩,
  ⟨some 28, .val (.mov (.t 4)), none⟩,
  ⟨some 29, .val (.bin .add false (.t 27) (.t 28)), none⟩,
  ⟨some 30, .call (F 22) [(.t 29)], none⟩,
  ⟨some 31, .call (F 74) [(.t 30)], none⟩,
  ⟨some 32, .val (.bin .add false (.t 26) (.t 31)), none⟩,
  ⟨some 33, .val (.mov (.t 4)), none⟩,
  ⟨some 34, .val (.bin .add false (.t 32) (.t 33)), none⟩,
  ⟨some 2, .val (.mov (.t 34)), none⟩]
def ref02_Put_c (F : Nat → Nat) : ACode :=
  (.seq
    (.reg ref02_Put_r0 (some ([1], [1, 23])))
    (.seq
      (.regD (ref02_Put_r1 F) [(2, 3), (2, 4), (2, 7), (5, 7), (2, 8), (5, 8), (2, 9), (5, 9), (6, 10)] (some ([1, 3], [1, 23])))
      (.seq
        (.reg ref02_Put_r2 (some ([3, 4], [23])))
        (.seq
          (.block 0
            (.loop
              (.seq
                (.seq
                  (.reg ref02_Put_r3 (some ([3, 4, 21], [23])))
                  (.cond (.t 21)
                    .skip
                    (.exit 0)))
                (.block 1
                  (.reg ref02_Put_r4 (some ([3, 4], [23])))))))
          (.seq
            (.reg (ref02_Put_r5 F) (some ([2], [23])))
            .ret)))))
def ref02_Put_k (P : Program) (F : Nat → Nat) : Prop := chkFn P (F 62) 1 (ref02_Put_c F) [2] = true

/- lockkeeper/lockkeeperref02.Take : names 0 s, 1 s, 4 n, 5 k, 6 p uns [] -/
/- ref.go:40 -/
def ref02_Take_r0 : List AOper := [
  ⟨some 2, .alloc 3 [.int .i64 0, .int .i64 0, .str []], none⟩,
  ⟨some 3, .val (.mov (.k (.int .i64 0))), none⟩]
/- ref.go:41 -/
def ref02_Take_r1 : List AOper := [
  ⟨some 7, .val (.mov (.t 0)), none⟩,
  ⟨some 8, .val (.lenT (.t 7)), none⟩,
  ⟨some 9, .val (.bin .neq false (.t 8) (.k (.int .i64 32))), none⟩]
/- ref.go:42 -/
def ref02_Take_r2 : List AOper := [
  ⟨some 10, .val (.build 3 [.int .i64 0, .int .i64 0, .str []] []), none⟩,
  ⟨none, .stA true 3 (.t 2) (.t 10), none⟩,
  ⟨some 3, .val (.mov (.k (.int .i64 2))), none⟩]
/- ref.go:44 -/
def ref02_Take_r3 (F : Nat → Nat) : List AOper := [
  ⟨some 11, .val (.mov (.t 0)), none⟩,
  ⟨some 12, .call (F 67) [(.t 11)], none⟩]
/- ref.go:45 -/
def ref02_Take_r4 : List AOper := [
  ⟨some 13, .val (.build 3 [.int .i64 0, .int .i64 0, .str []] []), none⟩,
  ⟨none, .stA true 3 (.t 2) (.t 13), none⟩,
  ⟨some 3, .val (.mov (.k (.int .i64 3))), none⟩]
/- ref.go:47 -/
def ref02_Take_r5 : List AOper := [
  ⟨some 4, .allocR 3 1 [.int .i64 0], none⟩]
/- ref.go:48 -/
def ref02_Take_r6 : List AOper := [
  ⟨some 5, .val (.mov (.k (.int .i64 0))), none⟩]
/- ref.go:48 -/
def ref02_Take_r7 : List AOper := [
  ⟨some 14, .val (.mov (.t 5)), none⟩,
  ⟨some 15, .val (.bin .lss false (.t 14) (.k (.int .i64 3))), none⟩]
/- ref.go:49 DRAWS -/
def ref02_Take_r9 : List AOper := [
  ⟨some 18, .val (.mov (.t 5)), none⟩,
  ⟨some 19, .val (.mov (.t 0)), none⟩,
  ⟨some 20, .val (.mov (.t 5)), none⟩,
  ⟨some 21, .val (.bin .mul true (.k (.int .i64 4)) (.t 20)), none⟩,
  ⟨some 22, .val (.idx (.t 19) (.t 21)), none⟩,
  ⟨some 23, .val (.conv true .i64 (.t 22)), none⟩,
  ⟨some 24, .val (.mov (.t 0)), none⟩,
  ⟨some 25, .val (.mov (.t 5)), none⟩,
  ⟨some 26, .val (.bin .mul true (.k (.int .i64 4)) (.t 25)), none⟩,
  ⟨some 27, .val (.bin .add true (.t 26) (.k (.int .i64 1))), none⟩,
  ⟨some 28, .val (.idx (.t 24) (.t 27)), none⟩,
  ⟨some 29, .val (.conv true .i64 (.t 28)), none⟩,
  ⟨some 30, .val (.bin .mul true (.k (.int .i64 256)) (.t 29)), none⟩,
  ⟨some 31, .val (.bin .add true (.t 23) (.t 30)), none⟩,
  ⟨some 32, .val (.mov (.t 0)), none⟩,
  ⟨some 33, .val (.mov (.t 5)), none⟩,
  ⟨some 34, .val (.bin .mul true (.k (.int .i64 4)) (.t 33)), none⟩,
  ⟨some 35, .val (.bin .add true (.t 34) (.k (.int .i64 2))), none⟩,
  ⟨some 36, .val (.idx (.t 32) (.t 35)), none⟩,
  ⟨some 37, .val (.conv true .i64 (.t 36)), none⟩,
  ⟨some 38, .val (.bin .mul true (.k (.int .i64 65536)) (.t 37)), none⟩,
  ⟨some 39, .val (.bin .add true (.t 31) (.t 38)), none⟩,
  ⟨some 40, .val (.mov (.t 0)), none⟩,
  ⟨some 41, .val (.mov (.t 5)), none⟩,
  ⟨some 42, .val (.bin .mul true (.k (.int .i64 4)) (.t 41)), none⟩,
  ⟨some 43, .val (.bin .add true (.t 42) (.k (.int .i64 3))), none⟩,
  ⟨some 44, .val (.idx (.t 40) (.t 43)), none⟩,
  ⟨some 45, .val (.conv true .i64 (.t 44)), none⟩,
  ⟨some 46, .val (.bin .mul true (.k (.int .i64 16777216)) (.t 45)), none⟩,
  ⟨some 47, .val (.bin .add true (.t 39) (.t 46)), none⟩,
  ⟨some 48, .val (.ixA 1 3 (.t 4) (.t 18)), none⟩,
  ⟨none, .st1 true (.t 48) (.t 47), none⟩]
/- ref.go:48 -/
def ref02_Take_r8 : List AOper := [
  ⟨some 16, .val (.mov (.t 5)), none⟩,
  ⟨some 17, .val (.bin .add true (.t 16) (.k (.int .i64 1))), none⟩,
  ⟨some 5, .val (.mov (.t 17)), none⟩]
/- ref.go:51 -/
def ref02_Take_r10 : List AOper := [
  ⟨some 49, .val (.ixA 1 3 (.t 4) (.k (.int .i64 2))), none⟩,
  ⟨some 50, .val (.load1 (.t 49)), none⟩,
  ⟨some 51, .val (.bin .gtr false (.t 50) (.k (.int .i64 16))), none⟩]
/- ref.go:52 -/
def ref02_Take_r11 : List AOper := [
  ⟨some 52, .val (.build 3 [.int .i64 0, .int .i64 0, .str []] []), none⟩,
  ⟨none, .stA true 3 (.t 2) (.t 52), none⟩,
  ⟨some 3, .val (.mov (.k (.int .i64 9))), none⟩]
/- ref.go:54 DRAWS -/
def ref02_Take_r12 : List AOper := [
  ⟨some 53, .val (.ixA 1 3 (.t 4) (.k (.int .i64 0))), none⟩,
  ⟨some 54, .val (.load1 (.t 53)), none⟩,
  ⟨some 55, .val (.ixA 1 3 (.t 4) (.k (.int .i64 1))), none⟩,
  ⟨some 56, .val (.load1 (.t 55)), none⟩,
  ⟨some 57, .val (.mov (.t 0)), none⟩,
  ⟨some 58, .val (.ixA 1 3 (.t 4) (.k (.int .i64 2))), none⟩,
  ⟨some 59, .val (.load1 (.t 58)), none⟩,
  ⟨some 60, .val (.bin .add true (.k (.int .i64 16)) (.t 59)), none⟩,
  ⟨some 61, .val (.slT (.t 57) (some (.k (.int .i64 16))) (some (.t 60))), none⟩,
  ⟨some 62, .val (.build 3 [.int .i64 0, .int .i64 0, .str []] [(0, 1, (.t 54)), (1, 1, (.t 56)), (2, 1, (.t 61))]), none⟩,
  ⟨some 6, .alloc 3 [.int .i64 0, .int .i64 0, .str []], none⟩,
  ⟨none, .stA true 3 (.t 6) (.t 62), none⟩]
/- ref.go:55 -/
def ref02_Take_r13 (F : Nat → Nat) : List AOper := [
  ⟨some 63, .val (.loadA 3 (.t 6)), none⟩,
  ⟨some 64, .call (F 59) [(.t 63)], none⟩,
  ⟨some 65, .val (.not (.t 64)), none⟩,
  ⟨some 66, .val (.mov (.t 65)), none⟩,
  ⟨some 67, .val (.loadA 3 (.t 6)), some (66, false)⟩,
  ⟨some 68, .call (F 62) [(.t 67)], some (66, false)⟩,
  ⟨some 69, .val (.mov (.t 0)), some (66, false)⟩,
  ⟨some 70, .val (.bin .neq false (.t 68) (.t 69)), some (66, false)⟩,
  ⟨some 71, .val (.por (.t 66) (.t 70)), none⟩]
/- ref.go:56 -/
def ref02_Take_r14 : List AOper := [
  ⟨some 72, .val (.build 3 [.int .i64 0, .int .i64 0, .str []] []), none⟩,
  ⟨none, .stA true 3 (.t 2) (.t 72), none⟩,
  ⟨some 3, .val (.mov (.k (.int .i64 9))), none⟩]
/- ref.go:58 -/
def ref02_Take_r15 : List AOper := [
  ⟨some 73, .val (.loadA 3 (.t 6)), none⟩,
  ⟨none, .stA true 3 (.t 2) (.t 73), none⟩,
  ⟨some 3, .val (.mov (.k (.int .i64 0))), none⟩]
def ref02_Take_c (F : Nat → Nat) : ACode :=
  (.seq
    (.reg ref02_Take_r0 (some ([0, 2], [2])))
    (.seq
      (.seq
        (.reg ref02_Take_r1 (some ([0, 2, 9], [2])))
        (.cond (.t 9)
          (.seq
            (.reg ref02_Take_r2 (some ([2, 3], [2])))
            .ret)
          .skip))
      (.seq
        (.seq
          (.reg (ref02_Take_r3 F) (some ([0, 2, 12], [2])))
          (.cond (.t 12)
            (.seq
              (.reg ref02_Take_r4 (some ([2, 3], [2])))
              .ret)
            .skip))
        (.seq
          (.reg ref02_Take_r5 (some ([0, 2, 4], [2, 4])))
          (.seq
            (.seq
              (.reg ref02_Take_r6 (some ([0, 2, 4, 5], [2, 4])))
              (.block 0
                (.loop
                  (.seq
                    (.seq
                      (.reg ref02_Take_r7 (some ([0, 2, 4, 5, 15], [2, 4])))
                      (.cond (.t 15)
                        .skip
                        (.exit 0)))
                    (.seq
                      (.block 1
                        (.regD ref02_Take_r9 [] (some ([0, 2, 4, 5], [2, 4]))))
                      (.reg ref02_Take_r8 (some ([0, 2, 4, 5], [2, 4]))))))))
            (.seq
              (.seq
                (.reg ref02_Take_r10 (some ([0, 2, 4, 51], [2, 4])))
                (.cond (.t 51)
                  (.seq
                    (.reg ref02_Take_r11 (some ([2, 3], [2])))
                    .ret)
                  .skip))
              (.seq
                (.regD ref02_Take_r12 [(0, 10), (1, 10), (2, 10), (3, 10), (4, 10), (5, 10), (6, 10), (7, 10), (8, 10), (9, 10)] (some ([0, 2, 6], [2, 6])))
                (.seq
                  (.seq
                    (.reg (ref02_Take_r13 F) (some ([2, 6, 71], [2, 6])))
                    (.cond (.t 71)
                      (.seq
                        (.reg ref02_Take_r14 (some ([2, 3], [2])))
                        .ret)
                      .skip))
                  (.seq
                    (.reg ref02_Take_r15 (some ([2, 3], [2])))
                    .ret)))))))))
def ref02_Take_k (P : Program) (F : Nat → Nat) : Prop := chkFn P (F 64) 1 (ref02_Take_c F) [.loadA 3 (.t 2), 3] = true

/- lockkeeper/lockkeeperref02.Noughts : names 0 s, 1 s, 3 i uns [] -/
/- ref.go:30 -/
def ref02_Noughts_r0 : List AOper := [
  ⟨some 2, .val (.mov (.k (.bool false))), none⟩]
/- ref.go:31 -/
def ref02_Noughts_r1 : List AOper := [
  ⟨some 3, .val (.mov (.k (.int .i64 0))), none⟩]
/- ref.go:31 -/
def ref02_Noughts_r2 : List AOper := [
  ⟨some 4, .val (.mov (.t 3)), none⟩,
  ⟨some 5, .val (.mov (.t 0)), none⟩,
  ⟨some 6, .val (.lenT (.t 5)), none⟩,
  ⟨some 7, .val (.bin .lss false (.t 4) (.t 6)), none⟩]
/- ref.go:32 -/
def ref02_Noughts_r4 : List AOper := [
  ⟨some 10, .val (.mov (.t 0)), none⟩,
  ⟨some 11, .val (.mov (.t 3)), none⟩,
  ⟨some 12, .val (.idx (.t 10) (.t 11)), none⟩,
  ⟨some 13, .val (.bin .neq false (.t 12) (.k (.int .u8 0))), none⟩]
/- ref.go:33 -/
def ref02_Noughts_r5 : List AOper := [
  ⟨some 2, .val (.mov (.k (.bool false))), none⟩]
/- ref.go:31 -/
def ref02_Noughts_r3 : List AOper := [
  ⟨some 8, .val (.mov (.t 3)), none⟩,
  ⟨some 9, .val (.bin .add true (.t 8) (.k (.int .i64 1))), none⟩,
  ⟨some 3, .val (.mov (.t 9)), none⟩]
/- ref.go:36 -/
def ref02_Noughts_r6 : List AOper := [
  ⟨some 2, .val (.mov (.k (.bool true))), none⟩]
def ref02_Noughts_c : ACode :=
  (.seq
    (.reg ref02_Noughts_r0 (some ([0], [])))
    (.seq
      (.seq
        (.reg ref02_Noughts_r1 (some ([0, 3], [])))
        (.block 0
          (.loop
            (.seq
              (.seq
                (.reg ref02_Noughts_r2 (some ([0, 3, 7], [])))
                (.cond (.t 7)
                  .skip
                  (.exit 0)))
              (.seq
                (.block 1
                  (.seq
                    (.reg ref02_Noughts_r4 (some ([0, 3, 13], [])))
                    (.cond (.t 13)
                      (.seq
                        (.reg ref02_Noughts_r5 (some ([2], [])))
                        .ret)
                      .skip)))
                (.reg ref02_Noughts_r3 (some ([0, 3], []))))))))
      (.seq
        (.reg ref02_Noughts_r6 (some ([2], [])))
        .ret)))
def ref02_Noughts_k (P : Program) (F : Nat → Nat) : Prop := chkFn P (F 67) 1 (ref02_Noughts_c) [2] = true

/- lockkeeper/page.four : names 0 n, 1 n, 3 x uns [] -/
/- page.go:67 -/
def page_four_r0 : List AOper := [
  ⟨some 2, .val (.mov (.k (.str []))), none⟩]
/- page.go:68 -/
def page_four_r1 : List AOper := [
  ⟨some 4, .val (.mov (.t 0)), none⟩,
  ⟨some 5, .val (.conv false .u32 (.t 4)), none⟩,
  ⟨some 3, .val (.mov (.t 5)), none⟩]
/- page.go:69 -/
def page_four_r2 : List AOper := [
  ⟨some 6, .val (.mov (.t 3)), none⟩,
  ⟨some 7, .val (.conv false .u8 (.t 6)), none⟩,
  ⟨some 8, .val (.mov (.t 3)), none⟩,
  ⟨some 9, .val (.bin .shr false (.t 8) (.k (.int .u64 8))), none⟩,
  ⟨some 10, .val (.conv false .u8 (.t 9)), none⟩,
  ⟨some 11, .val (.mov (.t 3)), none⟩,
  ⟨some 12, .val (.bin .shr false (.t 11) (.k (.int .u64 16))), none⟩,
  ⟨some 13, .val (.conv false .u8 (.t 12)), none⟩,
  ⟨some 14, .val (.mov (.t 3)), none⟩,
  ⟨some 15, .val (.bin .shr false (.t 14) (.k (.int .u64 24))), none⟩,
  ⟨some 16, .val (.conv false .u8 (.t 15)), none⟩,
  ⟨some 17, .buildS 1 4 [.int .u8 0] [(0, (.t 7)), (1, (.t 10)), (2, (.t 13)), (3, (.t 16))], none⟩,
  ⟨some 18, .val (.b2s (.t 17)), none⟩,
  ⟨some 2, .val (.mov (.t 18)), none⟩]
def page_four_c : ACode :=
  (.seq
    (.reg page_four_r0 (some ([0], [17])))
    (.seq
      (.reg page_four_r1 (some ([3], [17])))
      (.seq
        (.reg page_four_r2 (some ([2], [17])))
        .ret)))
def page_four_k (P : Program) (F : Nat → Nat) : Prop := chkFn P (F 72) 1 (page_four_c) [2] = true

/- lockkeeper/page.number : names 0 s, 1 at, 2 s, 3 at, 5 x, 6 i uns [] -/
/- page.go:73 -/
def page_number_r0 : List AOper := [
  ⟨some 4, .val (.mov (.k (.int .i64 0))), none⟩]
/- page.go:74 -/
def page_number_r1 : List AOper := [
  ⟨some 5, .val (.mov (.k (.int .u32 0))), none⟩]
/- page.go:75 -/
def page_number_r2 : List AOper := [
  ⟨some 7, .val (.mov (.k (.int .i64 0))), none⟩]
/- page.go:75 -/
def page_number_r3 : List AOper := [
  ⟨some 8, .val (.bin .lss false (.t 7) (.k (.int .i64 4))), none⟩]
/- page.go:75 -/
def page_number_r4 : List AOper := [
  ⟨some 9, .val (.mov (.t 7)), none⟩,
  ⟨some 6, .val (.mov (.t 9)), none⟩]
/- page.go:76 -/
def page_number_r5 : List AOper := [
  ⟨some 10, .val (.mov (.t 5)), none⟩,
  ⟨some 11, .val (.mov (.t 0)), none⟩,
  ⟨some 12, .val (.mov (.t 1)), none⟩,
  ⟨some 13, .val (.mov (.t 6)), none⟩,
  ⟨some 14, .val (.bin .add true (.t 12) (.t 13)), none⟩,
  ⟨some 15, .val (.idx (.t 11) (.t 14)), none⟩,
  ⟨some 16, .val (.conv true .u32 (.t 15)), none⟩,
  ⟨some 17, .val (.mov (.t 6)), none⟩,
  ⟨some 18, .val (.bin .mul true (.k (.int .i64 8)) (.t 17)), none⟩,
  ⟨some 19, .val (.bin .shl false (.t 16) (.t 18)), none⟩,
  ⟨some 20, .val (.bin .or false (.t 10) (.t 19)), none⟩,
  ⟨some 5, .val (.mov (.t 20)), none⟩]
/- page.go:75 -/
def page_number_r6 : List AOper := [
  ⟨some 21, .val (.bin .add true (.t 7) (.k (.int .i64 1))), none⟩,
  ⟨some 7, .val (.mov (.t 21)), none⟩]
/- page.go:78 -/
def page_number_r7 : List AOper := [
  ⟨some 22, .val (.mov (.t 5)), none⟩,
  ⟨some 23, .val (.conv true .i64 (.t 22)), none⟩,
  ⟨some 4, .val (.mov (.t 23)), none⟩]
def page_number_c : ACode :=
  (.seq
    (.reg page_number_r0 (some ([0, 1], [])))
    (.seq
      (.reg page_number_r1 (some ([0, 1, 5], [])))
      (.seq
        (.seq
          (.reg page_number_r2 (some ([0, 1, 5, 7], [])))
          (.block 0
            (.loop
              (.seq
                (.reg page_number_r3 (some ([0, 1, 5, 7, 8], [])))
                (.seq
                  (.cond (.t 8)
                    .skip
                    (.exit 0))
                  (.seq
                    (.block 1
                      (.seq
                        (.reg page_number_r4 (some ([0, 1, 5, 6, 7], [])))
                        (.reg page_number_r5 (some ([0, 1, 5, 7], [])))))
                    (.reg page_number_r6 (some ([0, 1, 5, 7], [])))))))))
        (.seq
          (.reg page_number_r7 (some ([4], [])))
          .ret))))
def page_number_k (P : Program) (F : Nat → Nat) : Prop := chkFn P (F 73) 2 (page_number_c) [4] = true

/- lockkeeper/lockkeeperref02.four : names 0 n, 1 n uns [] -/
/- ref.go:10 -/
def ref02_four_r0 : List AOper := [
  ⟨some 2, .val (.mov (.k (.str []))), none⟩]
/- ref.go:11 -/
def ref02_four_r1 : List AOper := [
  ⟨some 3, .val (.mov (.t 0)), none⟩,
  ⟨some 4, .val (.bin .rem true (.t 3) (.k (.int .i64 256))), none⟩,
  ⟨some 5, .val (.conv false .u8 (.t 4)), none⟩,
  ⟨some 6, .val (.mov (.t 0)), none⟩,
  ⟨some 7, .val (.bin .quo true (.t 6) (.k (.int .i64 256))), none⟩,
  ⟨some 8, .val (.bin .rem true (.t 7) (.k (.int .i64 256))), none⟩,
  ⟨some 9, .val (.conv false .u8 (.t 8)), none⟩,
  ⟨some 10, .val (.mov (.t 0)), none⟩,
  ⟨some 11, .val (.bin .quo true (.t 10) (.k (.int .i64 65536))), none⟩,
  ⟨some 12, .val (.bin .rem true (.t 11) (.k (.int .i64 256))), none⟩,
  ⟨some 13, .val (.conv false .u8 (.t 12)), none⟩,
  ⟨some 14, .val (.mov (.t 0)), none⟩,
  ⟨some 15, .val (.bin .quo true (.t 14) (.k (.int .i64 16777216))), none⟩,
  ⟨some 16, .val (.conv false .u8 (.t 15)), none⟩,
  ⟨some 17, .buildS 1 4 [.int .u8 0] [(0, (.t 5)), (1, (.t 9)), (2, (.t 13)), (3, (.t 16))], none⟩,
  ⟨some 18, .val (.b2s (.t 17)), none⟩,
  ⟨some 2, .val (.mov (.t 18)), none⟩]
def ref02_four_c : ACode :=
  (.seq
    (.reg ref02_four_r0 (some ([0], [17])))
    (.seq
      (.reg ref02_four_r1 (some ([2], [17])))
      .ret))
def ref02_four_k (P : Program) (F : Nat → Nat) : Prop := chkFn P (F 74) 1 (ref02_four_c) [2] = true

end Lk.C
