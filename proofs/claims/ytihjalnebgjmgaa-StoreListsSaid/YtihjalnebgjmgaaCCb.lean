/-
  CCb: what these chapters need.
-/
import Derived.Test.YtihjalnebgjmgaaCCa
set_option linter.unusedSimpArgs false
set_option linter.unusedVariables false
namespace Lk.C
open Go Lk
def law13_StoreExact_r0 : List AOper := [
  ⟨some 3, .box 2 (.t 0), none⟩,
  ⟨some 4, .box 3 (.t 1), none⟩,
  ⟨some 6, .val (.mov (.k (.bool false))), none⟩]
def law13_StoreExact_r1 (F : Nat → Nat) : List AOper := [
  ⟨some 18, .val (.loadA 2 (.t 3)), none⟩,
  ⟨some 19, .call (F 31) [(.t 18)], none⟩,
  ⟨some 20, .val (.not (.t 19)), none⟩,
  ⟨some 21, .val (.mov (.t 20)), none⟩,
  ⟨some 22, .val (.field 2 (.t 4)), some (21, false)⟩,
  ⟨some 23, .val (.load1 (.t 22)), some (21, false)⟩,
  ⟨some 24, .val (.lenT (.t 23)), some (21, false)⟩,
  ⟨some 25, .val (.bin .gtr false (.t 24) (.k (.int .i64 100))), some (21, false)⟩,
  ⟨some 26, .val (.por (.t 21) (.t 25)), none⟩]
def law13_StoreExact_r2 (F : Nat → Nat) : List AOper := [
  ⟨some 27, .call (F 126) [], none⟩,
  ⟨some 6, .val (.mov (.t 27)), none⟩]
def law13_StoreExact_r3 (F : Nat → Nat) : List AOper := [
  ⟨some 29, .val (.loadA 2 (.t 3)), none⟩,
  ⟨some 30, .val (.mov (.t 2)), none⟩,
  ⟨some 31, .call (F 127) [(.t 29), (.t 30)], none⟩,
  ⟨some 28, .val (.mov (.t 31)), none⟩,
  ⟨some 32, .val (.extr 0 (.t 28)), none⟩,
  ⟨some 33, .val (.extr 1 (.t 28)), none⟩,
  ⟨some 7, .alloc 3 [.int .i64 0, .int .i64 0, .str []], none⟩,
  ⟨none, .stA true 3 (.t 7) (.t 32), none⟩,
  ⟨some 8, .val (.mov (.t 33)), none⟩]
def law13_StoreExact_r4 (F : Nat → Nat) : List AOper := [
  ⟨some 35, .val (.loadA 2 (.t 3)), none⟩,
  ⟨some 36, .val (.mov (.t 2)), none⟩,
  ⟨some 37, .call (F 128) [(.t 35), (.t 36)], none⟩,
  ⟨some 34, .val (.mov (.t 37)), none⟩,
  ⟨some 38, .val (.extr 0 (.t 34)), none⟩,
  ⟨some 39, .val (.extr 1 (.t 34)), none⟩,
  ⟨some 9, .alloc 3 [.int .i64 0, .int .i64 0, .str []], none⟩,
  ⟨none, .stA true 3 (.t 9) (.t 38), none⟩,
  ⟨some 10, .val (.mov (.t 39)), none⟩]
def law13_StoreExact_r5 : List AOper := [
  ⟨some 40, .val (.loadA 3 (.t 7)), none⟩,
  ⟨some 41, .val (.loadA 3 (.t 9)), none⟩,
  ⟨some 42, .val (.eqA true [0, 0, 2] (.t 40) (.t 41)), none⟩,
  ⟨some 43, .val (.mov (.t 42)), none⟩,
  ⟨some 44, .val (.mov (.t 8)), some (43, false)⟩,
  ⟨some 45, .val (.mov (.t 10)), some (43, false)⟩,
  ⟨some 46, .val (.bin .neq false (.t 44) (.t 45)), some (43, false)⟩,
  ⟨some 47, .val (.por (.t 43) (.t 46)), none⟩]
def law13_StoreExact_r6 : List AOper := [
  ⟨some 6, .val (.mov (.k (.bool false))), none⟩]
def law13_StoreExact_r7 (F : Nat → Nat) : List AOper := [
  ⟨some 48, .val (.loadA 2 (.t 3)), none⟩,
  ⟨some 49, .val (.loadA 3 (.t 4)), none⟩,
  ⟨some 50, .call (F 129) [(.t 48), (.t 49)], none⟩,
  ⟨some 11, .val (.mov (.t 50)), none⟩]
def law13_StoreExact_r8 (F : Nat → Nat) : List AOper := [
  ⟨some 51, .val (.loadA 2 (.t 3)), none⟩,
  ⟨some 52, .val (.loadA 3 (.t 4)), none⟩,
  ⟨some 53, .call (F 130) [(.t 51), (.t 52)], none⟩,
  ⟨some 54, .call (F 131) [(.t 53)], none⟩,
  ⟨some 55, .val (.mov (.t 11)), none⟩,
  ⟨some 56, .call (F 104) [(.t 54), (.t 55)], none⟩,
  ⟨some 57, .val (.not (.t 56)), none⟩]
def law13_StoreExact_r9 : List AOper := [
  ⟨some 6, .val (.mov (.k (.bool false))), none⟩]
def law13_StoreExact_r10 (F : Nat → Nat) : List AOper := [
  ⟨some 59, .val (.loadA 2 (.t 3)), none⟩,
  ⟨some 60, .val (.loadA 3 (.t 4)), none⟩,
  ⟨some 61, .call (F 132) [(.t 59), (.t 60)], none⟩,
  ⟨some 58, .val (.mov (.t 61)), none⟩,
  ⟨some 62, .val (.extr 0 (.t 58)), none⟩,
  ⟨some 63, .val (.extr 1 (.t 58)), none⟩,
  ⟨some 12, .alloc 2 [.nil 1, .nil 2], none⟩,
  ⟨none, .stA true 2 (.t 12) (.t 62), none⟩,
  ⟨some 13, .val (.mov (.t 63)), none⟩]
def law13_StoreExact_r11 (F : Nat → Nat) : List AOper := [
  ⟨some 64, .val (.loadA 2 (.t 3)), none⟩,
  ⟨some 65, .call (F 100) [(.t 64)], none⟩,
  ⟨some 66, .val (.mov (.t 65)), none⟩,
  ⟨some 67, .val (.loadA 3 (.t 4)), some (66, true)⟩,
  ⟨some 68, .call (F 59) [(.t 67)], some (66, true)⟩,
  ⟨some 69, .val (.pand (.t 66) (.t 68)), none⟩,
  ⟨some 14, .val (.mov (.t 69)), none⟩]
def law13_StoreExact_r12 (F : Nat → Nat) : List AOper := [
  ⟨some 70, .val (.mov (.t 14)), none⟩,
  ⟨some 71, .val (.mov (.t 70)), none⟩,
  ⟨some 72, .val (.mov (.t 13)), some (71, true)⟩,
  ⟨some 73, .val (.bin .neq false (.t 72) (.k (.int .i64 0))), some (71, true)⟩,
  ⟨some 74, .val (.mov (.t 73)), some (71, true)⟩,
  ⟨some 75, .val (.loadA 2 (.t 12)), some (74, false)⟩,
  ⟨some 76, .val (.loadA 2 (.t 3)), some (74, false)⟩,
  ⟨some 77, .val (.mov (.t 11)), some (74, false)⟩,
  ⟨some 78, .call (F 105) [(.t 76), (.t 77), (.k (.int .i64 99))], some (74, false)⟩,
  ⟨some 79, .call (F 38) [(.t 75), (.t 78)], some (74, false)⟩,
  ⟨some 80, .val (.not (.t 79)), some (74, false)⟩,
  ⟨some 81, .val (.por (.t 74) (.t 80)), some (71, true)⟩,
  ⟨some 82, .val (.pand (.t 71) (.t 81)), none⟩,
  ⟨some 83, .val (.mov (.t 82)), none⟩,
  ⟨some 84, .val (.mov (.t 14)), some (83, false)⟩,
  ⟨some 85, .val (.not (.t 84)), some (83, false)⟩,
  ⟨some 86, .val (.mov (.t 85)), some (83, false)⟩,
  ⟨some 87, .val (.mov (.t 13)), some (86, true)⟩,
  ⟨some 88, .val (.bin .neq false (.t 87) (.k (.int .i64 1))), some (86, true)⟩,
  ⟨some 89, .val (.mov (.t 88)), some (86, true)⟩,
  ⟨some 90, .val (.loadA 2 (.t 12)), some (89, false)⟩,
  ⟨some 91, .val (.loadA 2 (.t 3)), some (89, false)⟩,
  ⟨some 92, .call (F 38) [(.t 90), (.t 91)], some (89, false)⟩,
  ⟨some 93, .val (.not (.t 92)), some (89, false)⟩,
  ⟨some 94, .val (.por (.t 89) (.t 93)), some (86, true)⟩,
  ⟨some 95, .val (.pand (.t 86) (.t 94)), some (83, false)⟩,
  ⟨some 96, .val (.por (.t 83) (.t 95)), none⟩]
def law13_StoreExact_r13 : List AOper := [
  ⟨some 6, .val (.mov (.k (.bool false))), none⟩]
def law13_StoreExact_r14 (F : Nat → Nat) : List AOper := [
  ⟨some 98, .val (.loadA 2 (.t 3)), none⟩,
  ⟨some 99, .val (.mov (.t 2)), none⟩,
  ⟨some 100, .call (F 133) [(.t 98), (.t 99)], none⟩,
  ⟨some 97, .val (.mov (.t 100)), none⟩,
  ⟨some 101, .val (.extr 0 (.t 97)), none⟩,
  ⟨some 102, .val (.extr 1 (.t 97)), none⟩,
  ⟨some 15, .alloc 2 [.nil 1, .nil 2], none⟩,
  ⟨none, .stA true 2 (.t 15) (.t 101), none⟩,
  ⟨some 16, .val (.mov (.t 102)), none⟩]
def law13_StoreExact_r15 (F : Nat → Nat) : List AOper := [
  ⟨some 103, .val (.loadA 2 (.t 3)), none⟩,
  ⟨some 104, .call (F 100) [(.t 103)], none⟩,
  ⟨some 105, .val (.mov (.t 104)), none⟩,
  ⟨some 106, .val (.mov (.t 2)), some (105, true)⟩,
  ⟨some 107, .val (.bin .geq false (.t 106) (.k (.int .i64 1))), some (105, true)⟩,
  ⟨some 108, .val (.pand (.t 105) (.t 107)), none⟩,
  ⟨some 109, .val (.mov (.t 108)), none⟩,
  ⟨some 110, .val (.mov (.t 2)), some (109, true)⟩,
  ⟨some 111, .val (.bin .leq false (.t 110) (.k (.int .i64 16))), some (109, true)⟩,
  ⟨some 112, .val (.pand (.t 109) (.t 111)), none⟩,
  ⟨some 17, .val (.mov (.t 112)), none⟩]
def law13_StoreExact_r16 : List AOper := [
  ⟨some 113, .val (.mov (.t 17)), none⟩,
  ⟨some 114, .val (.not (.t 113)), none⟩]
def law13_StoreExact_r17 (F : Nat → Nat) : List AOper := [
  ⟨some 115, .val (.mov (.t 16)), none⟩,
  ⟨some 116, .val (.bin .eql false (.t 115) (.k (.int .i64 1))), none⟩,
  ⟨some 117, .val (.mov (.t 116)), none⟩,
  ⟨some 118, .val (.loadA 2 (.t 15)), some (117, true)⟩,
  ⟨some 119, .val (.loadA 2 (.t 3)), some (117, true)⟩,
  ⟨some 120, .call (F 38) [(.t 118), (.t 119)], some (117, true)⟩,
  ⟨some 121, .val (.pand (.t 117) (.t 120)), none⟩,
  ⟨some 122, .val (.mov (.t 121)), none⟩,
  ⟨some 123, .call (F 126) [], some (122, true)⟩,
  ⟨some 124, .val (.pand (.t 122) (.t 123)), none⟩,
  ⟨some 6, .val (.mov (.t 124)), none⟩]
def law13_StoreExact_r18 (F : Nat → Nat) : List AOper := [
  ⟨some 125, .val (.mov (.t 16)), none⟩,
  ⟨some 126, .val (.bin .eql false (.t 125) (.k (.int .i64 0))), none⟩,
  ⟨some 127, .val (.mov (.t 126)), none⟩,
  ⟨some 128, .val (.loadA 2 (.t 15)), some (127, true)⟩,
  ⟨some 129, .val (.loadA 2 (.t 3)), some (127, true)⟩,
  ⟨some 130, .val (.loadA 2 (.t 3)), some (127, true)⟩,
  ⟨some 131, .val (.mov (.t 2)), some (127, true)⟩,
  ⟨some 132, .val (.build 3 [.int .i64 0, .int .i64 0, .str []] [(0, 1, (.t 131))]), some (127, true)⟩,
  ⟨some 133, .call (F 129) [(.t 130), (.t 132)], some (127, true)⟩,
  ⟨some 134, .call (F 105) [(.t 129), (.t 133), (.k (.int .i64 99))], some (127, true)⟩,
  ⟨some 135, .call (F 38) [(.t 128), (.t 134)], some (127, true)⟩,
  ⟨some 136, .val (.pand (.t 127) (.t 135)), none⟩,
  ⟨some 137, .val (.mov (.t 136)), none⟩,
  ⟨some 138, .call (F 126) [], some (137, true)⟩,
  ⟨some 139, .val (.pand (.t 137) (.t 138)), none⟩,
  ⟨some 6, .val (.mov (.t 139)), none⟩]
def law13_StoreExact_c (F : Nat → Nat) : ACode :=
  (.seq
    (.reg law13_StoreExact_r0 (some ([2, 3, 4], [3, 4])))
    (.seq
      (.seq
        (.reg (law13_StoreExact_r1 F) (some ([2, 3, 4, 26], [3, 4])))
        (.cond (.t 26)
          (.seq
            (.reg (law13_StoreExact_r2 F) (some ([6], [])))
            .ret)
          .skip))
      (.seq
        (.reg (law13_StoreExact_r3 F) (some ([2, 3, 4, 7, 8], [3, 4, 7])))
        (.seq
          (.reg (law13_StoreExact_r4 F) (some ([2, 3, 4, 7, 8, 9, 10], [3, 4, 7, 9])))
          (.seq
            (.seq
              (.reg law13_StoreExact_r5 (some ([2, 3, 4, 47], [3, 4])))
              (.cond (.t 47)
                (.seq
                  (.reg law13_StoreExact_r6 (some ([6], [])))
                  .ret)
                .skip))
            (.seq
              (.reg (law13_StoreExact_r7 F) (some ([2, 3, 4, 11], [3, 4])))
              (.seq
                (.seq
                  (.reg (law13_StoreExact_r8 F) (some ([2, 3, 4, 11, 57], [3, 4])))
                  (.cond (.t 57)
                    (.seq
                      (.reg law13_StoreExact_r9 (some ([6], [])))
                      .ret)
                    .skip))
                (.seq
                  (.reg (law13_StoreExact_r10 F) (some ([2, 3, 4, 11, 12, 13], [3, 4, 12])))
                  (.seq
                    (.reg (law13_StoreExact_r11 F) (some ([2, 3, 11, 12, 13, 14], [3, 12])))
                    (.seq
                      (.seq
                        (.regD (law13_StoreExact_r12 F) [(5, 8)] (some ([2, 3, 96], [3])))
                        (.cond (.t 96)
                          (.seq
                            (.reg law13_StoreExact_r13 (some ([6], [])))
                            .ret)
                          .skip))
                      (.seq
                        (.reg (law13_StoreExact_r14 F) (some ([2, 3, 15, 16], [3, 15])))
                        (.seq
                          (.reg (law13_StoreExact_r15 F) (some ([2, 3, 15, 16, 17], [3, 15])))
                          (.seq
                            (.seq
                              (.reg law13_StoreExact_r16 (some ([2, 3, 15, 16, 114], [3, 15])))
                              (.cond (.t 114)
                                (.seq
                                  (.reg (law13_StoreExact_r17 F) (some ([6], [])))
                                  .ret)
                                .skip))
                            (.seq
                              (.regD (law13_StoreExact_r18 F) [(3, 8), (4, 8), (3, 9)] (some ([6], [])))
                              .ret))))))))))))))
def law13_StoreExact_k (P : Program) (F : Nat → Nat) : Prop := chkFn P (F 134) 3 (law13_StoreExact_c F) [6] = true
def law13_StoreLists_r0 : List AOper := [
  ⟨some 1, .box 2 (.t 0), none⟩,
  ⟨some 2, .val (.mov (.k (.bool false))), none⟩]
def law13_StoreLists_r1 (F : Nat → Nat) : List AOper := [
  ⟨some 8, .val (.loadA 2 (.t 1)), none⟩,
  ⟨some 9, .call (F 31) [(.t 8)], none⟩,
  ⟨some 10, .val (.not (.t 9)), none⟩]
def law13_StoreLists_r2 (F : Nat → Nat) : List AOper := [
  ⟨some 11, .call (F 126) [], none⟩,
  ⟨some 2, .val (.mov (.t 11)), none⟩]
def law13_StoreLists_r3 (F : Nat → Nat) : List AOper := [
  ⟨some 12, .val (.loadA 2 (.t 1)), none⟩,
  ⟨some 13, .call (F 135) [(.t 12)], none⟩,
  ⟨some 3, .val (.mov (.t 13)), none⟩]
def law13_StoreLists_r4 : List AOper := [
  ⟨some 4, .val (.mov (.k (.int .i64 0))), none⟩]
def law13_StoreLists_r5 : List AOper := [
  ⟨some 5, .val (.mov (.k (.int .i64 1))), none⟩]
def law13_StoreLists_r6 : List AOper := [
  ⟨some 14, .val (.mov (.t 5)), none⟩,
  ⟨some 15, .val (.bin .leq false (.t 14) (.k (.int .i64 16))), none⟩]
def law13_StoreLists_r8 (F : Nat → Nat) : List AOper := [
  ⟨some 19, .val (.loadA 2 (.t 1)), none⟩,
  ⟨some 20, .val (.mov (.t 5)), none⟩,
  ⟨some 21, .call (F 128) [(.t 19), (.t 20)], none⟩,
  ⟨some 18, .val (.mov (.t 21)), none⟩,
  ⟨some 22, .val (.extr 0 (.t 18)), none⟩,
  ⟨some 23, .val (.extr 1 (.t 18)), none⟩,
  ⟨some 6, .alloc 3 [.int .i64 0, .int .i64 0, .str []], none⟩,
  ⟨none, .stA true 3 (.t 6) (.t 22), none⟩,
  ⟨some 7, .val (.mov (.t 23)), none⟩]
def law13_StoreLists_r9 : List AOper := [
  ⟨some 24, .val (.mov (.t 7)), none⟩,
  ⟨some 25, .val (.bin .neq false (.t 24) (.k (.int .i64 0))), none⟩]
def law13_StoreLists_r10 : List AOper := [
  ⟨some 26, .val (.mov (.t 4)), none⟩,
  ⟨some 27, .val (.mov (.t 3)), none⟩,
  ⟨some 28, .val (.lenS (.t 27)), none⟩,
  ⟨some 29, .val (.bin .geq false (.t 26) (.t 28)), none⟩,
  ⟨some 30, .val (.mov (.t 29)), none⟩,
  ⟨some 31, .val (.mov (.t 3)), some (30, false)⟩,
  ⟨some 32, .val (.mov (.t 4)), some (30, false)⟩,
  ⟨some 33, .val (.ixS 3 (.t 31) (.t 32)), some (30, false)⟩,
  ⟨some 34, .val (.loadA 3 (.t 33)), some (30, false)⟩,
  ⟨some 35, .val (.loadA 3 (.t 6)), some (30, false)⟩,
  ⟨some 36, .val (.eqA true [0, 0, 2] (.t 34) (.t 35)), some (30, false)⟩,
  ⟨some 37, .val (.por (.t 30) (.t 36)), none⟩]
def law13_StoreLists_r11 : List AOper := [
  ⟨some 2, .val (.mov (.k (.bool false))), none⟩]
def law13_StoreLists_r12 : List AOper := [
  ⟨some 38, .val (.mov (.t 4)), none⟩,
  ⟨some 39, .val (.bin .add true (.t 38) (.k (.int .i64 1))), none⟩,
  ⟨some 4, .val (.mov (.t 39)), none⟩]
def law13_StoreLists_r7 : List AOper := [
  ⟨some 16, .val (.mov (.t 5)), none⟩,
  ⟨some 17, .val (.bin .add true (.t 16) (.k (.int .i64 1))), none⟩,
  ⟨some 5, .val (.mov (.t 17)), none⟩]
def law13_StoreLists_r13 (F : Nat → Nat) : List AOper := [
  ⟨some 40, .val (.mov (.t 4)), none⟩,
  ⟨some 41, .val (.mov (.t 3)), none⟩,
  ⟨some 42, .val (.lenS (.t 41)), none⟩,
  ⟨some 43, .val (.bin .eql false (.t 40) (.t 42)), none⟩,
  ⟨some 44, .val (.mov (.t 43)), none⟩,
  ⟨some 45, .call (F 126) [], some (44, true)⟩,
  ⟨some 46, .val (.pand (.t 44) (.t 45)), none⟩,
  ⟨some 2, .val (.mov (.t 46)), none⟩]
def law13_StoreLists_c (F : Nat → Nat) : ACode :=
  (.seq
    (.reg law13_StoreLists_r0 (some ([1], [1])))
    (.seq
      (.seq
        (.reg (law13_StoreLists_r1 F) (some ([1, 10], [1])))
        (.cond (.t 10)
          (.seq
            (.reg (law13_StoreLists_r2 F) (some ([2], [])))
            .ret)
          .skip))
      (.seq
        (.reg (law13_StoreLists_r3 F) (some ([1, 3], [1])))
        (.seq
          (.reg law13_StoreLists_r4 (some ([1, 3, 4], [1])))
          (.seq
            (.seq
              (.reg law13_StoreLists_r5 (some ([1, 3, 4, 5], [1])))
              (.block 0
                (.loop
                  (.seq
                    (.seq
                      (.reg law13_StoreLists_r6 (some ([1, 3, 4, 5, 15], [1])))
                      (.cond (.t 15)
                        .skip
                        (.exit 0)))
                    (.seq
                      (.block 1
                        (.seq
                          (.reg (law13_StoreLists_r8 F) (some ([1, 3, 4, 5, 6, 7], [1, 6])))
                          (.seq
                            (.seq
                              (.reg law13_StoreLists_r9 (some ([1, 3, 4, 5, 6, 25], [1, 6])))
                              (.cond (.t 25)
                                (.exit 1)
                                .skip))
                            (.seq
                              (.seq
                                (.regD law13_StoreLists_r10 [] (some ([1, 3, 4, 5, 37], [1])))
                                (.cond (.t 37)
                                  (.seq
                                    (.reg law13_StoreLists_r11 (some ([2], [])))
                                    .ret)
                                  .skip))
                              (.reg law13_StoreLists_r12 (some ([1, 3, 4, 5], [1])))))))
                      (.reg law13_StoreLists_r7 (some ([1, 3, 4, 5], [1]))))))))
            (.seq
              (.reg (law13_StoreLists_r13 F) (some ([2], [])))
              .ret))))))
def law13_StoreLists_k (P : Program) (F : Nat → Nat) : Prop := chkFn P (F 136) 1 (law13_StoreLists_c F) [2] = true
def law13_StoreKeeps_r0 : List AOper := [
  ⟨some 2, .val (.mov (.k (.bool false))), none⟩]
def law13_StoreKeeps_r1 (F : Nat → Nat) : List AOper := [
  ⟨some 16, .call (F 28) [(.k (.int .i64 35))], none⟩,
  ⟨some 15, .val (.mov (.t 16)), none⟩,
  ⟨some 17, .val (.extr 0 (.t 15)), none⟩,
  ⟨some 18, .val (.extr 1 (.t 15)), none⟩,
  ⟨some 3, .alloc 2 [.nil 1, .nil 2], none⟩,
  ⟨none, .stA true 2 (.t 3) (.t 17), none⟩,
  ⟨some 4, .val (.mov (.t 18)), none⟩]
def law13_StoreKeeps_r2 : List AOper := [
  ⟨some 5, .allocR 17 3 [.int .i64 0, .int .i64 0, .str []], none⟩]
def law13_StoreKeeps_r3 : List AOper := [
  ⟨some 6, .val (.mov (.k (.int .i64 0))), none⟩]
def law13_StoreKeeps_r4 : List AOper := [
  ⟨some 19, .val (.mov (.t 6)), none⟩,
  ⟨some 20, .val (.mov (.t 0)), none⟩,
  ⟨some 21, .val (.lenS (.t 20)), none⟩,
  ⟨some 22, .val (.bin .lss false (.t 19) (.t 21)), none⟩,
  ⟨some 23, .val (.mov (.t 22)), none⟩,
  ⟨some 24, .val (.mov (.t 6)), some (23, true)⟩,
  ⟨some 25, .val (.bin .lss false (.t 24) (.k (.int .i64 40))), some (23, true)⟩,
  ⟨some 26, .val (.pand (.t 23) (.t 25)), none⟩]
def law13_StoreKeeps_r6 : List AOper := [
  ⟨some 29, .val (.mov (.t 0)), none⟩,
  ⟨some 30, .val (.mov (.t 6)), none⟩,
  ⟨some 31, .val (.ixS 3 (.t 29) (.t 30)), none⟩,
  ⟨some 32, .val (.loadA 3 (.t 31)), none⟩,
  ⟨some 7, .alloc 3 [.int .i64 0, .int .i64 0, .str []], none⟩,
  ⟨none, .stA true 3 (.t 7) (.t 32), none⟩]
def law13_StoreKeeps_r7 : List AOper := [
  ⟨some 33, .val (.field 0 (.t 7)), none⟩,
  ⟨some 34, .val (.load1 (.t 33)), none⟩,
  ⟨some 35, .val (.bin .lss false (.t 34) (.k (.int .i64 1))), none⟩,
  ⟨some 36, .val (.mov (.t 35)), none⟩,
  ⟨some 37, .val (.field 0 (.t 7)), some (36, false)⟩,
  ⟨some 38, .val (.load1 (.t 37)), some (36, false)⟩,
  ⟨some 39, .val (.bin .gtr false (.t 38) (.k (.int .i64 16))), some (36, false)⟩,
  ⟨some 40, .val (.por (.t 36) (.t 39)), none⟩]
def law13_StoreKeeps_r8 (F : Nat → Nat) : List AOper := [
  ⟨some 41, .call (F 126) [], none⟩,
  ⟨some 2, .val (.mov (.t 41)), none⟩]
def law13_StoreKeeps_r9 (F : Nat → Nat) : List AOper := [
  ⟨some 42, .val (.loadA 3 (.t 7)), none⟩,
  ⟨some 43, .call (F 59) [(.t 42)], none⟩,
  ⟨some 44, .val (.not (.t 43)), none⟩]
def law13_StoreKeeps_r10 (F : Nat → Nat) : List AOper := [
  ⟨some 46, .val (.loadA 2 (.t 3)), none⟩,
  ⟨some 47, .val (.field 0 (.t 7)), none⟩,
  ⟨some 48, .val (.load1 (.t 47)), none⟩,
  ⟨some 49, .call (F 133) [(.t 46), (.t 48)], none⟩,
  ⟨some 45, .val (.mov (.t 49)), none⟩,
  ⟨some 50, .val (.extr 0 (.t 45)), none⟩,
  ⟨some 51, .val (.extr 1 (.t 45)), none⟩,
  ⟨some 8, .alloc 2 [.nil 1, .nil 2], none⟩,
  ⟨none, .stA true 2 (.t 8) (.t 50), none⟩,
  ⟨some 9, .val (.mov (.t 51)), none⟩]
def law13_StoreKeeps_r11 : List AOper := [
  ⟨some 52, .val (.mov (.t 9)), none⟩,
  ⟨some 53, .val (.bin .neq false (.t 52) (.k (.int .i64 0))), none⟩]
def law13_StoreKeeps_r12 : List AOper := [
  ⟨some 2, .val (.mov (.k (.bool false))), none⟩]
def law13_StoreKeeps_r13 : List AOper := [
  ⟨some 54, .val (.field 0 (.t 7)), none⟩,
  ⟨some 55, .val (.load1 (.t 54)), none⟩,
  ⟨some 56, .val (.loadA 2 (.t 8)), none⟩,
  ⟨some 57, .val (.build 3 [.int .i64 0, .int .i64 0, .str []] []), none⟩,
  ⟨none, .stA true 2 (.t 3) (.t 56), none⟩,
  ⟨some 58, .val (.ixA 3 17 (.t 5) (.t 55)), none⟩,
  ⟨none, .stA true 3 (.t 58) (.t 57), none⟩]
def law13_StoreKeeps_r14 (F : Nat → Nat) : List AOper := [
  ⟨some 60, .val (.loadA 2 (.t 3)), none⟩,
  ⟨some 61, .val (.loadA 3 (.t 7)), none⟩,
  ⟨some 62, .call (F 132) [(.t 60), (.t 61)], none⟩,
  ⟨some 59, .val (.mov (.t 62)), none⟩,
  ⟨some 63, .val (.extr 0 (.t 59)), none⟩,
  ⟨some 64, .val (.extr 1 (.t 59)), none⟩,
  ⟨some 10, .alloc 2 [.nil 1, .nil 2], none⟩,
  ⟨none, .stA true 2 (.t 10) (.t 63), none⟩,
  ⟨some 11, .val (.mov (.t 64)), none⟩]
def law13_StoreKeeps_r15 : List AOper := [
  ⟨some 65, .val (.mov (.t 11)), none⟩,
  ⟨some 66, .val (.bin .neq false (.t 65) (.k (.int .i64 0))), none⟩]
def law13_StoreKeeps_r16 : List AOper := [
  ⟨some 2, .val (.mov (.k (.bool false))), none⟩]
def law13_StoreKeeps_r17 : List AOper := [
  ⟨some 67, .val (.field 0 (.t 7)), none⟩,
  ⟨some 68, .val (.load1 (.t 67)), none⟩,
  ⟨some 69, .val (.loadA 2 (.t 10)), none⟩,
  ⟨some 70, .val (.loadA 3 (.t 7)), none⟩,
  ⟨none, .stA true 2 (.t 3) (.t 69), none⟩,
  ⟨some 71, .val (.ixA 3 17 (.t 5) (.t 68)), none⟩,
  ⟨none, .stA true 3 (.t 71) (.t 70), none⟩]
def law13_StoreKeeps_r5 : List AOper := [
  ⟨some 27, .val (.mov (.t 6)), none⟩,
  ⟨some 28, .val (.bin .add true (.t 27) (.k (.int .i64 1))), none⟩,
  ⟨some 6, .val (.mov (.t 28)), none⟩]
def law13_StoreKeeps_r18 : List AOper := [
  ⟨some 12, .val (.mov (.k (.int .i64 1))), none⟩]
def law13_StoreKeeps_r19 : List AOper := [
  ⟨some 72, .val (.mov (.t 12)), none⟩,
  ⟨some 73, .val (.bin .leq false (.t 72) (.k (.int .i64 16))), none⟩]
def law13_StoreKeeps_r21 (F : Nat → Nat) : List AOper := [
  ⟨some 77, .val (.loadA 2 (.t 3)), none⟩,
  ⟨some 78, .val (.mov (.t 12)), none⟩,
  ⟨some 79, .call (F 127) [(.t 77), (.t 78)], none⟩,
  ⟨some 76, .val (.mov (.t 79)), none⟩,
  ⟨some 80, .val (.extr 0 (.t 76)), none⟩,
  ⟨some 81, .val (.extr 1 (.t 76)), none⟩,
  ⟨some 13, .alloc 3 [.int .i64 0, .int .i64 0, .str []], none⟩,
  ⟨none, .stA true 3 (.t 13) (.t 80), none⟩,
  ⟨some 14, .val (.mov (.t 81)), none⟩]
def law13_StoreKeeps_r22 : List AOper := [
  ⟨some 82, .val (.loadA 3 (.t 13)), none⟩,
  ⟨some 83, .val (.mov (.t 12)), none⟩,
  ⟨some 84, .val (.ixA 3 17 (.t 5) (.t 83)), none⟩,
  ⟨some 85, .val (.loadA 3 (.t 84)), none⟩,
  ⟨some 86, .val (.eqA true [0, 0, 2] (.t 82) (.t 85)), none⟩,
  ⟨some 87, .val (.mov (.t 86)), none⟩,
  ⟨some 88, .val (.mov (.t 14)), some (87, false)⟩,
  ⟨some 89, .val (.bin .eql false (.t 88) (.k (.int .i64 0))), some (87, false)⟩,
  ⟨some 90, .val (.mov (.t 12)), some (87, false)⟩,
  ⟨some 91, .val (.ixA 3 17 (.t 5) (.t 90)), some (87, false)⟩,
  ⟨some 92, .val (.field 0 (.t 91)), some (87, false)⟩,
  ⟨some 93, .val (.load1 (.t 92)), some (87, false)⟩,
  ⟨some 94, .val (.bin .neq false (.t 93) (.k (.int .i64 0))), some (87, false)⟩,
  ⟨some 95, .val (.eqB true (.t 89) (.t 94)), some (87, false)⟩,
  ⟨some 96, .val (.por (.t 87) (.t 95)), none⟩,
  ⟨some 97, .val (.mov (.t 96)), none⟩,
  ⟨some 98, .val (.mov (.t 14)), some (97, false)⟩,
  ⟨some 99, .val (.bin .neq false (.t 98) (.k (.int .i64 0))), some (97, false)⟩,
  ⟨some 100, .val (.mov (.t 99)), some (97, false)⟩,
  ⟨some 101, .val (.mov (.t 14)), some (100, true)⟩,
  ⟨some 102, .val (.bin .neq false (.t 101) (.k (.int .i64 3))), some (100, true)⟩,
  ⟨some 103, .val (.pand (.t 100) (.t 102)), some (97, false)⟩,
  ⟨some 104, .val (.por (.t 97) (.t 103)), none⟩]
def law13_StoreKeeps_r23 : List AOper := [
  ⟨some 2, .val (.mov (.k (.bool false))), none⟩]
def law13_StoreKeeps_r20 : List AOper := [
  ⟨some 74, .val (.mov (.t 12)), none⟩,
  ⟨some 75, .val (.bin .add true (.t 74) (.k (.int .i64 1))), none⟩,
  ⟨some 12, .val (.mov (.t 75)), none⟩]
def law13_StoreKeeps_r24 (F : Nat → Nat) : List AOper := [
  ⟨some 105, .val (.field 1 (.t 3)), none⟩,
  ⟨some 106, .val (.load1 (.t 105)), none⟩,
  ⟨some 107, .val (.lenS (.t 106)), none⟩,
  ⟨some 108, .val (.bin .eql false (.t 107) (.k (.int .i64 0))), none⟩,
  ⟨some 109, .val (.mov (.t 108)), none⟩,
  ⟨some 110, .call (F 126) [], some (109, true)⟩,
  ⟨some 111, .val (.pand (.t 109) (.t 110)), none⟩,
  ⟨some 2, .val (.mov (.t 111)), none⟩]
def law13_StoreKeeps_c (F : Nat → Nat) : ACode :=
  (.seq
    (.reg law13_StoreKeeps_r0 (some ([0], [])))
    (.seq
      (.reg (law13_StoreKeeps_r1 F) (some ([0, 3], [3])))
      (.seq
        (.reg law13_StoreKeeps_r2 (some ([0, 3, 5], [3, 5])))
        (.seq
          (.seq
            (.reg law13_StoreKeeps_r3 (some ([0, 3, 5, 6], [3, 5])))
            (.block 0
              (.loop
                (.seq
                  (.seq
                    (.reg law13_StoreKeeps_r4 (some ([0, 3, 5, 6, 26], [3, 5])))
                    (.cond (.t 26)
                      .skip
                      (.exit 0)))
                  (.seq
                    (.block 1
                      (.seq
                        (.reg law13_StoreKeeps_r6 (some ([0, 3, 5, 6, 7], [3, 5, 7])))
                        (.seq
                          (.seq
                            (.reg law13_StoreKeeps_r7 (some ([0, 3, 5, 6, 7, 40], [3, 5, 7])))
                            (.cond (.t 40)
                              (.seq
                                (.reg (law13_StoreKeeps_r8 F) (some ([2], [])))
                                .ret)
                              .skip))
                          (.seq
                            (.reg (law13_StoreKeeps_r9 F) (some ([0, 3, 5, 6, 7, 44], [3, 5, 7])))
                            (.cond (.t 44)
                              (.seq
                                (.reg (law13_StoreKeeps_r10 F) (some ([0, 3, 5, 6, 7, 8, 9], [3, 5, 7, 8])))
                                (.seq
                                  (.seq
                                    (.reg law13_StoreKeeps_r11 (some ([0, 3, 5, 6, 7, 8, 53], [3, 5, 7, 8])))
                                    (.cond (.t 53)
                                      (.seq
                                        (.reg law13_StoreKeeps_r12 (some ([2], [])))
                                        .ret)
                                      .skip))
                                  (.regD law13_StoreKeeps_r13 [(0, 4), (1, 4), (3, 4)] (some ([0, 3, 5, 6], [3, 5])))))
                              (.seq
                                (.reg (law13_StoreKeeps_r14 F) (some ([0, 3, 5, 6, 7, 10, 11], [3, 5, 7, 10])))
                                (.seq
                                  (.seq
                                    (.reg law13_StoreKeeps_r15 (some ([0, 3, 5, 6, 7, 10, 66], [3, 5, 7, 10])))
                                    (.cond (.t 66)
                                      (.seq
                                        (.reg law13_StoreKeeps_r16 (some ([2], [])))
                                        .ret)
                                      .skip))
                                  (.regD law13_StoreKeeps_r17 [(0, 4), (1, 4), (3, 4)] (some ([0, 3, 5, 6], [3, 5]))))))))))
                    (.reg law13_StoreKeeps_r5 (some ([0, 3, 5, 6], [3, 5]))))))))
          (.seq
            (.seq
              (.reg law13_StoreKeeps_r18 (some ([3, 5, 12], [3, 5])))
              (.block 2
                (.loop
                  (.seq
                    (.seq
                      (.reg law13_StoreKeeps_r19 (some ([3, 5, 12, 73], [3, 5])))
                      (.cond (.t 73)
                        .skip
                        (.exit 2)))
                    (.seq
                      (.block 3
                        (.seq
                          (.reg (law13_StoreKeeps_r21 F) (some ([3, 5, 12, 13, 14], [3, 5, 13])))
                          (.seq
                            (.regD law13_StoreKeeps_r22 [] (some ([3, 5, 12, 104], [3, 5])))
                            (.cond (.t 104)
                              (.seq
                                (.reg law13_StoreKeeps_r23 (some ([2], [])))
                                .ret)
                              .skip))))
                      (.reg law13_StoreKeeps_r20 (some ([3, 5, 12], [3, 5]))))))))
            (.seq
              (.reg (law13_StoreKeeps_r24 F) (some ([2], [])))
              .ret))))))
def law13_StoreKeeps_k (P : Program) (F : Nat → Nat) : Prop := chkFn P (F 137) 1 (law13_StoreKeeps_c F) [2] = true
def law13_StoreOther_r0 : List AOper := [
  ⟨some 3, .box 2 (.t 0), none⟩,
  ⟨some 4, .box 3 (.t 1), none⟩,
  ⟨some 6, .val (.mov (.k (.bool false))), none⟩]
def law13_StoreOther_r1 (F : Nat → Nat) : List AOper := [
  ⟨some 14, .val (.loadA 2 (.t 3)), none⟩,
  ⟨some 15, .call (F 31) [(.t 14)], none⟩,
  ⟨some 16, .val (.not (.t 15)), none⟩,
  ⟨some 17, .val (.mov (.t 16)), none⟩,
  ⟨some 18, .val (.field 2 (.t 4)), some (17, false)⟩,
  ⟨some 19, .val (.load1 (.t 18)), some (17, false)⟩,
  ⟨some 20, .val (.lenT (.t 19)), some (17, false)⟩,
  ⟨some 21, .val (.bin .gtr false (.t 20) (.k (.int .i64 100))), some (17, false)⟩,
  ⟨some 22, .val (.por (.t 17) (.t 21)), none⟩,
  ⟨some 23, .val (.mov (.t 22)), none⟩,
  ⟨some 24, .val (.loadA 2 (.t 3)), some (23, false)⟩,
  ⟨some 25, .call (F 100) [(.t 24)], some (23, false)⟩,
  ⟨some 26, .val (.not (.t 25)), some (23, false)⟩,
  ⟨some 27, .val (.por (.t 23) (.t 26)), none⟩,
  ⟨some 28, .val (.mov (.t 27)), none⟩,
  ⟨some 29, .val (.field 1 (.t 3)), some (28, false)⟩,
  ⟨some 30, .val (.load1 (.t 29)), some (28, false)⟩,
  ⟨some 31, .val (.lenS (.t 30)), some (28, false)⟩,
  ⟨some 32, .val (.bin .neq false (.t 31) (.k (.int .i64 0))), some (28, false)⟩,
  ⟨some 33, .val (.por (.t 28) (.t 32)), none⟩]
def law13_StoreOther_r2 (F : Nat → Nat) : List AOper := [
  ⟨some 34, .call (F 126) [], none⟩,
  ⟨some 6, .val (.mov (.t 34)), none⟩]
def law13_StoreOther_r3 (F : Nat → Nat) : List AOper := [
  ⟨some 36, .val (.loadA 2 (.t 3)), none⟩,
  ⟨some 37, .val (.loadA 3 (.t 4)), none⟩,
  ⟨some 38, .call (F 132) [(.t 36), (.t 37)], none⟩,
  ⟨some 35, .val (.mov (.t 38)), none⟩,
  ⟨some 39, .val (.extr 0 (.t 35)), none⟩,
  ⟨some 40, .val (.extr 1 (.t 35)), none⟩,
  ⟨some 7, .alloc 2 [.nil 1, .nil 2], none⟩,
  ⟨none, .stA true 2 (.t 7) (.t 39), none⟩,
  ⟨some 8, .val (.mov (.t 40)), none⟩]
def law13_StoreOther_r4 : List AOper := [
  ⟨some 41, .val (.mov (.t 2)), none⟩]
def law13_StoreOther_r5 (F : Nat → Nat) : List AOper := [
  ⟨some 43, .val (.loadA 2 (.t 3)), none⟩,
  ⟨some 44, .val (.field 0 (.t 4)), none⟩,
  ⟨some 45, .val (.load1 (.t 44)), none⟩,
  ⟨some 46, .call (F 133) [(.t 43), (.t 45)], none⟩,
  ⟨some 42, .val (.mov (.t 46)), none⟩,
  ⟨some 47, .val (.extr 0 (.t 42)), none⟩,
  ⟨some 48, .val (.extr 1 (.t 42)), none⟩,
  ⟨none, .stA true 2 (.t 7) (.t 47), none⟩,
  ⟨some 8, .val (.mov (.t 48)), none⟩]
def law13_StoreOther_r6 : List AOper := [
  ⟨some 9, .val (.mov (.k (.int .i64 1))), none⟩]
def law13_StoreOther_r7 : List AOper := [
  ⟨some 49, .val (.mov (.t 9)), none⟩,
  ⟨some 50, .val (.bin .leq false (.t 49) (.k (.int .i64 16))), none⟩]
def law13_StoreOther_r9 (F : Nat → Nat) : List AOper := [
  ⟨some 54, .val (.loadA 2 (.t 3)), none⟩,
  ⟨some 55, .val (.mov (.t 9)), none⟩,
  ⟨some 56, .call (F 127) [(.t 54), (.t 55)], none⟩,
  ⟨some 53, .val (.mov (.t 56)), none⟩,
  ⟨some 57, .val (.extr 0 (.t 53)), none⟩,
  ⟨some 58, .val (.extr 1 (.t 53)), none⟩,
  ⟨some 10, .alloc 3 [.int .i64 0, .int .i64 0, .str []], none⟩,
  ⟨none, .stA true 3 (.t 10) (.t 57), none⟩,
  ⟨some 11, .val (.mov (.t 58)), none⟩]
def law13_StoreOther_r10 (F : Nat → Nat) : List AOper := [
  ⟨some 60, .val (.loadA 2 (.t 7)), none⟩,
  ⟨some 61, .val (.mov (.t 9)), none⟩,
  ⟨some 62, .call (F 127) [(.t 60), (.t 61)], none⟩,
  ⟨some 59, .val (.mov (.t 62)), none⟩,
  ⟨some 63, .val (.extr 0 (.t 59)), none⟩,
  ⟨some 64, .val (.extr 1 (.t 59)), none⟩,
  ⟨some 12, .alloc 3 [.int .i64 0, .int .i64 0, .str []], none⟩,
  ⟨none, .stA true 3 (.t 12) (.t 63), none⟩,
  ⟨some 13, .val (.mov (.t 64)), none⟩]
def law13_StoreOther_r11 : List AOper := [
  ⟨some 65, .val (.mov (.t 9)), none⟩,
  ⟨some 66, .val (.field 0 (.t 4)), none⟩,
  ⟨some 67, .val (.load1 (.t 66)), none⟩,
  ⟨some 68, .val (.bin .neq false (.t 65) (.t 67)), none⟩,
  ⟨some 69, .val (.mov (.t 68)), none⟩,
  ⟨some 70, .val (.mov (.t 8)), some (69, false)⟩,
  ⟨some 71, .val (.bin .neq false (.t 70) (.k (.int .i64 0))), some (69, false)⟩,
  ⟨some 72, .val (.por (.t 69) (.t 71)), none⟩,
  ⟨some 73, .val (.mov (.t 72)), none⟩,
  ⟨some 74, .val (.loadA 3 (.t 10)), some (73, true)⟩,
  ⟨some 75, .val (.loadA 3 (.t 12)), some (73, true)⟩,
  ⟨some 76, .val (.eqA true [0, 0, 2] (.t 74) (.t 75)), some (73, true)⟩,
  ⟨some 77, .val (.mov (.t 76)), some (73, true)⟩,
  ⟨some 78, .val (.mov (.t 11)), some (77, false)⟩,
  ⟨some 79, .val (.mov (.t 13)), some (77, false)⟩,
  ⟨some 80, .val (.bin .neq false (.t 78) (.t 79)), some (77, false)⟩,
  ⟨some 81, .val (.por (.t 77) (.t 80)), some (73, true)⟩,
  ⟨some 82, .val (.pand (.t 73) (.t 81)), none⟩]
def law13_StoreOther_r12 : List AOper := [
  ⟨some 6, .val (.mov (.k (.bool false))), none⟩]
def law13_StoreOther_r13 : List AOper := [
  ⟨some 83, .val (.mov (.t 9)), none⟩,
  ⟨some 84, .val (.field 0 (.t 4)), none⟩,
  ⟨some 85, .val (.load1 (.t 84)), none⟩,
  ⟨some 86, .val (.bin .eql false (.t 83) (.t 85)), none⟩,
  ⟨some 87, .val (.mov (.t 86)), none⟩,
  ⟨some 88, .val (.mov (.t 8)), some (87, true)⟩,
  ⟨some 89, .val (.bin .eql false (.t 88) (.k (.int .i64 0))), some (87, true)⟩,
  ⟨some 90, .val (.pand (.t 87) (.t 89)), none⟩,
  ⟨some 91, .val (.mov (.t 90)), none⟩,
  ⟨some 92, .val (.mov (.t 2)), some (91, true)⟩,
  ⟨some 93, .val (.mov (.t 92)), some (91, true)⟩,
  ⟨some 94, .val (.mov (.t 13)), some (93, true)⟩,
  ⟨some 95, .val (.bin .neq false (.t 94) (.k (.int .i64 3))), some (93, true)⟩,
  ⟨some 96, .val (.pand (.t 93) (.t 95)), some (91, true)⟩,
  ⟨some 97, .val (.mov (.t 96)), some (91, true)⟩,
  ⟨some 98, .val (.mov (.t 2)), some (97, false)⟩,
  ⟨some 99, .val (.not (.t 98)), some (97, false)⟩,
  ⟨some 100, .val (.mov (.t 99)), some (97, false)⟩,
  ⟨some 101, .val (.mov (.t 13)), some (100, true)⟩,
  ⟨some 102, .val (.bin .neq false (.t 101) (.k (.int .i64 0))), some (100, true)⟩,
  ⟨some 103, .val (.mov (.t 102)), some (100, true)⟩,
  ⟨some 104, .val (.loadA 3 (.t 12)), some (103, false)⟩,
  ⟨some 105, .val (.loadA 3 (.t 4)), some (103, false)⟩,
  ⟨some 106, .val (.eqA true [0, 0, 2] (.t 104) (.t 105)), some (103, false)⟩,
  ⟨some 107, .val (.por (.t 103) (.t 106)), some (100, true)⟩,
  ⟨some 108, .val (.pand (.t 100) (.t 107)), some (97, false)⟩,
  ⟨some 109, .val (.por (.t 97) (.t 108)), some (91, true)⟩,
  ⟨some 110, .val (.pand (.t 91) (.t 109)), none⟩]
def law13_StoreOther_r14 : List AOper := [
  ⟨some 6, .val (.mov (.k (.bool false))), none⟩]
def law13_StoreOther_r8 : List AOper := [
  ⟨some 51, .val (.mov (.t 9)), none⟩,
  ⟨some 52, .val (.bin .add true (.t 51) (.k (.int .i64 1))), none⟩,
  ⟨some 9, .val (.mov (.t 52)), none⟩]
def law13_StoreOther_r15 (F : Nat → Nat) : List AOper := [
  ⟨some 111, .call (F 126) [], none⟩,
  ⟨some 6, .val (.mov (.t 111)), none⟩]
def law13_StoreOther_c (F : Nat → Nat) : ACode :=
  (.seq
    (.reg law13_StoreOther_r0 (some ([2, 3, 4], [3, 4])))
    (.seq
      (.seq
        (.reg (law13_StoreOther_r1 F) (some ([2, 3, 4, 33], [3, 4])))
        (.cond (.t 33)
          (.seq
            (.reg (law13_StoreOther_r2 F) (some ([6], [])))
            .ret)
          .skip))
      (.seq
        (.reg (law13_StoreOther_r3 F) (some ([2, 3, 4, 7, 8], [3, 4, 7])))
        (.seq
          (.seq
            (.reg law13_StoreOther_r4 (some ([2, 3, 4, 7, 8, 41], [3, 4, 7])))
            (.cond (.t 41)
              (.reg (law13_StoreOther_r5 F) (some ([2, 3, 4, 7, 8], [3, 4, 7])))
              .skip))
          (.seq
            (.seq
              (.reg law13_StoreOther_r6 (some ([2, 3, 4, 7, 8, 9], [3, 4, 7])))
              (.block 0
                (.loop
                  (.seq
                    (.seq
                      (.reg law13_StoreOther_r7 (some ([2, 3, 4, 7, 8, 9, 50], [3, 4, 7])))
                      (.cond (.t 50)
                        .skip
                        (.exit 0)))
                    (.seq
                      (.block 1
                        (.seq
                          (.reg (law13_StoreOther_r9 F) (some ([2, 3, 4, 7, 8, 9, 10, 11], [3, 4, 7, 10])))
                          (.seq
                            (.reg (law13_StoreOther_r10 F) (some ([2, 3, 4, 7, 8, 9, 10, 11, 12, 13], [3, 4, 7, 10, 12])))
                            (.seq
                              (.seq
                                (.reg law13_StoreOther_r11 (some ([2, 3, 4, 7, 8, 9, 12, 13, 82], [3, 4, 7, 12])))
                                (.cond (.t 82)
                                  (.seq
                                    (.reg law13_StoreOther_r12 (some ([6], [])))
                                    .ret)
                                  .skip))
                              (.seq
                                (.reg law13_StoreOther_r13 (some ([2, 3, 4, 7, 8, 9, 110], [3, 4, 7])))
                                (.cond (.t 110)
                                  (.seq
                                    (.reg law13_StoreOther_r14 (some ([6], [])))
                                    .ret)
                                  .skip))))))
                      (.reg law13_StoreOther_r8 (some ([2, 3, 4, 7, 8, 9], [3, 4, 7]))))))))
            (.seq
              (.reg (law13_StoreOther_r15 F) (some ([6], [])))
              .ret))))))
def law13_StoreOther_k (P : Program) (F : Nat → Nat) : Prop := chkFn P (F 138) 3 (law13_StoreOther_c F) [6] = true
def law13_StoreSame_r0 : List AOper := [
  ⟨some 1, .box 3 (.t 0), none⟩,
  ⟨some 2, .val (.mov (.k (.bool false))), none⟩]
def law13_StoreSame_r1 (F : Nat → Nat) : List AOper := [
  ⟨some 16, .call (F 28) [(.k (.int .i64 35))], none⟩,
  ⟨some 15, .val (.mov (.t 16)), none⟩,
  ⟨some 17, .val (.extr 0 (.t 15)), none⟩,
  ⟨some 18, .val (.extr 1 (.t 15)), none⟩,
  ⟨some 3, .alloc 2 [.nil 1, .nil 2], none⟩,
  ⟨none, .stA true 2 (.t 3) (.t 17), none⟩,
  ⟨some 4, .val (.mov (.t 18)), none⟩]
def law13_StoreSame_r2 (F : Nat → Nat) : List AOper := [
  ⟨some 19, .val (.loadA 3 (.t 1)), none⟩,
  ⟨some 20, .call (F 59) [(.t 19)], none⟩,
  ⟨some 21, .val (.not (.t 20)), none⟩]
def law13_StoreSame_r3 (F : Nat → Nat) : List AOper := [
  ⟨some 23, .val (.loadA 2 (.t 3)), none⟩,
  ⟨some 24, .val (.loadA 3 (.t 1)), none⟩,
  ⟨some 25, .call (F 132) [(.t 23), (.t 24)], none⟩,
  ⟨some 22, .val (.mov (.t 25)), none⟩,
  ⟨some 26, .val (.extr 0 (.t 22)), none⟩,
  ⟨some 27, .val (.extr 1 (.t 22)), none⟩,
  ⟨some 5, .alloc 2 [.nil 1, .nil 2], none⟩,
  ⟨none, .stA true 2 (.t 5) (.t 26), none⟩,
  ⟨some 6, .val (.mov (.t 27)), none⟩]
def law13_StoreSame_r4 (F : Nat → Nat) : List AOper := [
  ⟨some 28, .val (.mov (.t 6)), none⟩,
  ⟨some 29, .val (.bin .eql false (.t 28) (.k (.int .i64 1))), none⟩,
  ⟨some 30, .val (.mov (.t 29)), none⟩,
  ⟨some 31, .call (F 126) [], some (30, true)⟩,
  ⟨some 32, .val (.pand (.t 30) (.t 31)), none⟩,
  ⟨some 2, .val (.mov (.t 32)), none⟩]
def law13_StoreSame_r5 (F : Nat → Nat) : List AOper := [
  ⟨some 34, .val (.loadA 2 (.t 3)), none⟩,
  ⟨some 35, .val (.loadA 3 (.t 1)), none⟩,
  ⟨some 36, .call (F 132) [(.t 34), (.t 35)], none⟩,
  ⟨some 33, .val (.mov (.t 36)), none⟩,
  ⟨some 37, .val (.extr 0 (.t 33)), none⟩,
  ⟨some 38, .val (.extr 1 (.t 33)), none⟩,
  ⟨some 7, .alloc 2 [.nil 1, .nil 2], none⟩,
  ⟨none, .stA true 2 (.t 7) (.t 37), none⟩,
  ⟨some 8, .val (.mov (.t 38)), none⟩]
def law13_StoreSame_r6 (F : Nat → Nat) : List AOper := [
  ⟨some 40, .val (.loadA 2 (.t 7)), none⟩,
  ⟨some 41, .val (.loadA 3 (.t 1)), none⟩,
  ⟨some 42, .call (F 132) [(.t 40), (.t 41)], none⟩,
  ⟨some 39, .val (.mov (.t 42)), none⟩,
  ⟨some 43, .val (.extr 0 (.t 39)), none⟩,
  ⟨some 44, .val (.extr 1 (.t 39)), none⟩,
  ⟨some 9, .alloc 2 [.nil 1, .nil 2], none⟩,
  ⟨none, .stA true 2 (.t 9) (.t 43), none⟩,
  ⟨some 10, .val (.mov (.t 44)), none⟩]
def law13_StoreSame_r7 (F : Nat → Nat) : List AOper := [
  ⟨some 46, .val (.loadA 2 (.t 9)), none⟩,
  ⟨some 47, .val (.field 0 (.t 1)), none⟩,
  ⟨some 48, .val (.load1 (.t 47)), none⟩,
  ⟨some 49, .call (F 133) [(.t 46), (.t 48)], none⟩,
  ⟨some 45, .val (.mov (.t 49)), none⟩,
  ⟨some 50, .val (.extr 0 (.t 45)), none⟩,
  ⟨some 51, .val (.extr 1 (.t 45)), none⟩,
  ⟨some 11, .alloc 2 [.nil 1, .nil 2], none⟩,
  ⟨none, .stA true 2 (.t 11) (.t 50), none⟩,
  ⟨some 12, .val (.mov (.t 51)), none⟩]
def law13_StoreSame_r8 (F : Nat → Nat) : List AOper := [
  ⟨some 53, .val (.loadA 2 (.t 11)), none⟩,
  ⟨some 54, .val (.field 0 (.t 1)), none⟩,
  ⟨some 55, .val (.load1 (.t 54)), none⟩,
  ⟨some 56, .call (F 133) [(.t 53), (.t 55)], none⟩,
  ⟨some 52, .val (.mov (.t 56)), none⟩,
  ⟨some 57, .val (.extr 0 (.t 52)), none⟩,
  ⟨some 58, .val (.extr 1 (.t 52)), none⟩,
  ⟨some 13, .alloc 2 [.nil 1, .nil 2], none⟩,
  ⟨none, .stA true 2 (.t 13) (.t 57), none⟩,
  ⟨some 14, .val (.mov (.t 58)), none⟩]
def law13_StoreSame_r9 (F : Nat → Nat) : List AOper := [
  ⟨some 59, .val (.mov (.t 8)), none⟩,
  ⟨some 60, .val (.bin .eql false (.t 59) (.k (.int .i64 0))), none⟩,
  ⟨some 61, .val (.mov (.t 60)), none⟩,
  ⟨some 62, .val (.mov (.t 10)), some (61, true)⟩,
  ⟨some 63, .val (.bin .eql false (.t 62) (.k (.int .i64 0))), some (61, true)⟩,
  ⟨some 64, .val (.pand (.t 61) (.t 63)), none⟩,
  ⟨some 65, .val (.mov (.t 64)), none⟩,
  ⟨some 66, .val (.mov (.t 12)), some (65, true)⟩,
  ⟨some 67, .val (.bin .eql false (.t 66) (.k (.int .i64 0))), some (65, true)⟩,
  ⟨some 68, .val (.pand (.t 65) (.t 67)), none⟩,
  ⟨some 69, .val (.mov (.t 68)), none⟩,
  ⟨some 70, .val (.mov (.t 14)), some (69, true)⟩,
  ⟨some 71, .val (.bin .eql false (.t 70) (.k (.int .i64 0))), some (69, true)⟩,
  ⟨some 72, .val (.pand (.t 69) (.t 71)), none⟩,
  ⟨some 73, .val (.mov (.t 72)), none⟩,
  ⟨some 74, .val (.loadA 2 (.t 7)), some (73, true)⟩,
  ⟨some 75, .val (.loadA 2 (.t 9)), some (73, true)⟩,
  ⟨some 76, .call (F 38) [(.t 74), (.t 75)], some (73, true)⟩,
  ⟨some 77, .val (.pand (.t 73) (.t 76)), none⟩,
  ⟨some 78, .val (.mov (.t 77)), none⟩,
  ⟨some 79, .val (.loadA 2 (.t 11)), some (78, true)⟩,
  ⟨some 80, .val (.loadA 2 (.t 13)), some (78, true)⟩,
  ⟨some 81, .call (F 38) [(.t 79), (.t 80)], some (78, true)⟩,
  ⟨some 82, .val (.pand (.t 78) (.t 81)), none⟩,
  ⟨some 83, .val (.mov (.t 82)), none⟩,
  ⟨some 84, .val (.loadA 2 (.t 9)), some (83, true)⟩,
  ⟨some 85, .call (F 135) [(.t 84)], some (83, true)⟩,
  ⟨some 86, .val (.lenS (.t 85)), some (83, true)⟩,
  ⟨some 87, .val (.bin .eql false (.t 86) (.k (.int .i64 1))), some (83, true)⟩,
  ⟨some 88, .val (.pand (.t 83) (.t 87)), none⟩,
  ⟨some 89, .val (.mov (.t 88)), none⟩,
  ⟨some 90, .val (.loadA 2 (.t 13)), some (89, true)⟩,
  ⟨some 91, .call (F 135) [(.t 90)], some (89, true)⟩,
  ⟨some 92, .val (.lenS (.t 91)), some (89, true)⟩,
  ⟨some 93, .val (.bin .eql false (.t 92) (.k (.int .i64 0))), some (89, true)⟩,
  ⟨some 94, .val (.pand (.t 89) (.t 93)), none⟩,
  ⟨some 95, .val (.mov (.t 94)), none⟩,
  ⟨some 96, .call (F 126) [], some (95, true)⟩,
  ⟨some 97, .val (.pand (.t 95) (.t 96)), none⟩,
  ⟨some 2, .val (.mov (.t 97)), none⟩]
def law13_StoreSame_c (F : Nat → Nat) : ACode :=
  (.seq
    (.reg law13_StoreSame_r0 (some ([1], [1])))
    (.seq
      (.reg (law13_StoreSame_r1 F) (some ([1, 3], [1, 3])))
      (.seq
        (.seq
          (.reg (law13_StoreSame_r2 F) (some ([1, 3, 21], [1, 3])))
          (.cond (.t 21)
            (.seq
              (.reg (law13_StoreSame_r3 F) (some ([6], [])))
              (.seq
                (.reg (law13_StoreSame_r4 F) (some ([2], [])))
                .ret))
            .skip))
        (.seq
          (.reg (law13_StoreSame_r5 F) (some ([1, 7, 8], [1, 7])))
          (.seq
            (.reg (law13_StoreSame_r6 F) (some ([1, 7, 8, 9, 10], [1, 7, 9])))
            (.seq
              (.reg (law13_StoreSame_r7 F) (some ([1, 7, 8, 9, 10, 11, 12], [1, 7, 9, 11])))
              (.seq
                (.reg (law13_StoreSame_r8 F) (some ([7, 8, 9, 10, 11, 12, 13, 14], [7, 9, 11, 13])))
                (.seq
                  (.reg (law13_StoreSame_r9 F) (some ([2], [])))
                  .ret))))))))
def law13_StoreSame_k (P : Program) (F : Nat → Nat) : Prop := chkFn P (F 139) 1 (law13_StoreSame_c F) [2] = true
def law13_StoreCrash_r0 : List AOper := [
  ⟨some 5, .box 3 (.t 1), none⟩,
  ⟨some 8, .val (.mov (.k (.bool false))), none⟩]
def law13_StoreCrash_r1 (F : Nat → Nat) : List AOper := [
  ⟨some 22, .call (F 28) [(.k (.int .i64 35))], none⟩,
  ⟨some 21, .val (.mov (.t 22)), none⟩,
  ⟨some 23, .val (.extr 0 (.t 21)), none⟩,
  ⟨some 24, .val (.extr 1 (.t 21)), none⟩,
  ⟨some 9, .alloc 2 [.nil 1, .nil 2], none⟩,
  ⟨none, .stA true 2 (.t 9) (.t 23), none⟩,
  ⟨some 10, .val (.mov (.t 24)), none⟩]
def law13_StoreCrash_r2 (F : Nat → Nat) : List AOper := [
  ⟨some 25, .val (.mov (.t 0)), none⟩,
  ⟨some 26, .val (.lenS (.t 25)), none⟩,
  ⟨some 27, .val (.bin .gtr false (.t 26) (.k (.int .i64 16))), none⟩,
  ⟨some 28, .val (.mov (.t 27)), none⟩,
  ⟨some 29, .val (.mov (.t 3)), some (28, false)⟩,
  ⟨some 30, .val (.lenS (.t 29)), some (28, false)⟩,
  ⟨some 31, .val (.bin .gtr false (.t 30) (.k (.int .i64 60))), some (28, false)⟩,
  ⟨some 32, .val (.por (.t 28) (.t 31)), none⟩,
  ⟨some 33, .val (.mov (.t 32)), none⟩,
  ⟨some 34, .val (.field 0 (.t 5)), some (33, false)⟩,
  ⟨some 35, .val (.load1 (.t 34)), some (33, false)⟩,
  ⟨some 36, .val (.bin .lss false (.t 35) (.k (.int .i64 1))), some (33, false)⟩,
  ⟨some 37, .val (.por (.t 33) (.t 36)), none⟩,
  ⟨some 38, .val (.mov (.t 37)), none⟩,
  ⟨some 39, .val (.field 0 (.t 5)), some (38, false)⟩,
  ⟨some 40, .val (.load1 (.t 39)), some (38, false)⟩,
  ⟨some 41, .val (.bin .gtr false (.t 40) (.k (.int .i64 16))), some (38, false)⟩,
  ⟨some 42, .val (.por (.t 38) (.t 41)), none⟩,
  ⟨some 43, .val (.mov (.t 42)), none⟩,
  ⟨some 44, .val (.loadA 3 (.t 5)), some (43, false)⟩,
  ⟨some 45, .call (F 59) [(.t 44)], some (43, false)⟩,
  ⟨some 46, .val (.not (.t 45)), some (43, false)⟩,
  ⟨some 47, .val (.mov (.t 46)), some (43, false)⟩,
  ⟨some 48, .val (.field 1 (.t 5)), some (47, true)⟩,
  ⟨some 49, .val (.load1 (.t 48)), some (47, true)⟩,
  ⟨some 50, .val (.bin .neq false (.t 49) (.k (.int .i64 0))), some (47, true)⟩,
  ⟨some 51, .val (.mov (.t 50)), some (47, true)⟩,
  ⟨some 52, .val (.field 2 (.t 5)), some (51, false)⟩,
  ⟨some 53, .val (.load1 (.t 52)), some (51, false)⟩,
  ⟨some 54, .val (.bin .neq false (.t 53) (.k (.str []))), some (51, false)⟩,
  ⟨some 55, .val (.por (.t 51) (.t 54)), some (47, true)⟩,
  ⟨some 56, .val (.pand (.t 47) (.t 55)), some (43, false)⟩,
  ⟨some 57, .val (.por (.t 43) (.t 56)), none⟩]
def law13_StoreCrash_r3 (F : Nat → Nat) : List AOper := [
  ⟨some 58, .call (F 126) [], none⟩,
  ⟨some 8, .val (.mov (.t 58)), none⟩]
def law13_StoreCrash_r4 : List AOper := [
  ⟨some 11, .allocR 17 3 [.int .i64 0, .int .i64 0, .str []], none⟩]
def law13_StoreCrash_r5 : List AOper := [
  ⟨some 59, .val (.mov (.t 0)), none⟩,
  ⟨some 60, .val (.lenS (.t 59)), none⟩,
  ⟨some 61, .val (.mov (.k (.int .i64 0))), none⟩]
def law13_StoreCrash_r6 : List AOper := [
  ⟨some 62, .val (.bin .lss false (.t 61) (.t 60)), none⟩]
def law13_StoreCrash_r7 : List AOper := [
  ⟨some 63, .val (.ixS 3 (.t 59) (.t 61)), none⟩,
  ⟨some 64, .val (.loadA 3 (.t 63)), none⟩,
  ⟨some 13, .alloc 3 [.int .i64 0, .int .i64 0, .str []], none⟩,
  ⟨none, .stA true 3 (.t 13) (.t 64), none⟩]
def law13_StoreCrash_r8 (F : Nat → Nat) : List AOper := [
  ⟨some 65, .val (.loadA 3 (.t 13)), none⟩,
  ⟨some 66, .call (F 59) [(.t 65)], none⟩,
  ⟨some 67, .val (.not (.t 66)), none⟩,
  ⟨some 68, .val (.mov (.t 67)), none⟩,
  ⟨some 69, .val (.field 0 (.t 13)), some (68, false)⟩,
  ⟨some 70, .val (.load1 (.t 69)), some (68, false)⟩,
  ⟨some 71, .val (.ixA 3 17 (.t 11) (.t 70)), some (68, false)⟩,
  ⟨some 72, .val (.field 0 (.t 71)), some (68, false)⟩,
  ⟨some 73, .val (.load1 (.t 72)), some (68, false)⟩,
  ⟨some 74, .val (.bin .neq false (.t 73) (.k (.int .i64 0))), some (68, false)⟩,
  ⟨some 75, .val (.por (.t 68) (.t 74)), none⟩]
def law13_StoreCrash_r9 (F : Nat → Nat) : List AOper := [
  ⟨some 76, .call (F 126) [], none⟩,
  ⟨some 8, .val (.mov (.t 76)), none⟩]
def law13_StoreCrash_r10 (F : Nat → Nat) : List AOper := [
  ⟨some 78, .val (.loadA 2 (.t 9)), none⟩,
  ⟨some 79, .val (.loadA 3 (.t 13)), none⟩,
  ⟨some 80, .call (F 132) [(.t 78), (.t 79)], none⟩,
  ⟨some 77, .val (.mov (.t 80)), none⟩,
  ⟨some 81, .val (.extr 0 (.t 77)), none⟩,
  ⟨some 82, .val (.extr 1 (.t 77)), none⟩,
  ⟨some 14, .alloc 2 [.nil 1, .nil 2], none⟩,
  ⟨none, .stA true 2 (.t 14) (.t 81), none⟩,
  ⟨some 15, .val (.mov (.t 82)), none⟩]
def law13_StoreCrash_r11 : List AOper := [
  ⟨some 83, .val (.mov (.t 15)), none⟩,
  ⟨some 84, .val (.bin .neq false (.t 83) (.k (.int .i64 0))), none⟩]
def law13_StoreCrash_r12 : List AOper := [
  ⟨some 8, .val (.mov (.k (.bool false))), none⟩]
def law13_StoreCrash_r13 : List AOper := [
  ⟨some 85, .val (.field 0 (.t 13)), none⟩,
  ⟨some 86, .val (.load1 (.t 85)), none⟩,
  ⟨some 87, .val (.loadA 2 (.t 14)), none⟩,
  ⟨some 88, .val (.loadA 3 (.t 13)), none⟩,
  ⟨none, .stA true 2 (.t 9) (.t 87), none⟩,
  ⟨some 89, .val (.ixA 3 17 (.t 11) (.t 86)), none⟩,
  ⟨none, .stA true 3 (.t 89) (.t 88), none⟩]
def law13_StoreCrash_r14 : List AOper := [
  ⟨some 90, .val (.bin .add true (.t 61) (.k (.int .i64 1))), none⟩,
  ⟨some 61, .val (.mov (.t 90)), none⟩]
def law13_StoreCrash_r15 : List AOper := [
  ⟨some 91, .val (.mov (.t 2)), none⟩,
  ⟨some 92, .val (.bin .rem true (.t 91) (.k (.int .u8 12))), none⟩,
  ⟨some 93, .val (.conv true .i64 (.t 92)), none⟩,
  ⟨some 16, .val (.mov (.t 93)), none⟩]
def law13_StoreCrash_r16 (F : Nat → Nat) : List AOper := [
  ⟨some 94, .val (.loadA 2 (.t 9)), none⟩,
  ⟨some 95, .val (.loadA 2 (.t 9)), none⟩,
  ⟨some 96, .val (.loadA 3 (.t 5)), none⟩,
  ⟨some 97, .call (F 130) [(.t 95), (.t 96)], none⟩,
  ⟨some 98, .val (.mov (.t 16)), none⟩,
  ⟨some 99, .call (F 111) [(.t 94), (.t 97), (.t 98)], none⟩,
  ⟨some 100, .val (.mov (.t 3)), none⟩,
  ⟨some 101, .call (F 33) [(.t 99), (.t 100)], none⟩,
  ⟨some 102, .call (F 110) [(.t 101)], none⟩,
  ⟨none, .stA true 2 (.t 9) (.t 102), none⟩]
def law13_StoreCrash_r17 : List AOper := [
  ⟨some 103, .val (.loadA 3 (.t 5)), none⟩,
  ⟨some 17, .alloc 3 [.int .i64 0, .int .i64 0, .str []], none⟩,
  ⟨none, .stA true 3 (.t 17) (.t 103), none⟩]
def law13_StoreCrash_r18 : List AOper := [
  ⟨some 104, .val (.field 1 (.t 5)), none⟩,
  ⟨some 105, .val (.load1 (.t 104)), none⟩,
  ⟨some 106, .val (.bin .eql false (.t 105) (.k (.int .i64 0))), none⟩]
def law13_StoreCrash_r19 : List AOper := [
  ⟨some 107, .val (.build 3 [.int .i64 0, .int .i64 0, .str []] []), none⟩,
  ⟨none, .stA true 3 (.t 17) (.t 107), none⟩]
def law13_StoreCrash_r20 : List AOper := [
  ⟨some 18, .val (.mov (.k (.int .i64 1))), none⟩]
def law13_StoreCrash_r21 : List AOper := [
  ⟨some 108, .val (.mov (.t 18)), none⟩,
  ⟨some 109, .val (.bin .leq false (.t 108) (.k (.int .i64 16))), none⟩]
def law13_StoreCrash_r23 (F : Nat → Nat) : List AOper := [
  ⟨some 113, .val (.loadA 2 (.t 9)), none⟩,
  ⟨some 114, .val (.mov (.t 18)), none⟩,
  ⟨some 115, .call (F 127) [(.t 113), (.t 114)], none⟩,
  ⟨some 112, .val (.mov (.t 115)), none⟩,
  ⟨some 116, .val (.extr 0 (.t 112)), none⟩,
  ⟨some 117, .val (.extr 1 (.t 112)), none⟩,
  ⟨some 19, .alloc 3 [.int .i64 0, .int .i64 0, .str []], none⟩,
  ⟨none, .stA true 3 (.t 19) (.t 116), none⟩,
  ⟨some 20, .val (.mov (.t 117)), none⟩]
def law13_StoreCrash_r24 : List AOper := [
  ⟨some 118, .val (.mov (.t 20)), none⟩,
  ⟨some 119, .val (.bin .neq false (.t 118) (.k (.int .i64 0))), none⟩,
  ⟨some 120, .val (.mov (.t 119)), none⟩,
  ⟨some 121, .val (.mov (.t 20)), some (120, true)⟩,
  ⟨some 122, .val (.bin .neq false (.t 121) (.k (.int .i64 3))), some (120, true)⟩,
  ⟨some 123, .val (.pand (.t 120) (.t 122)), none⟩,
  ⟨some 124, .val (.mov (.t 123)), none⟩,
  ⟨some 125, .val (.loadA 3 (.t 19)), some (124, false)⟩,
  ⟨some 126, .val (.mov (.t 18)), some (124, false)⟩,
  ⟨some 127, .val (.ixA 3 17 (.t 11) (.t 126)), some (124, false)⟩,
  ⟨some 128, .val (.loadA 3 (.t 127)), some (124, false)⟩,
  ⟨some 129, .val (.eqA true [0, 0, 2] (.t 125) (.t 128)), some (124, false)⟩,
  ⟨some 130, .val (.mov (.t 129)), some (124, false)⟩,
  ⟨some 131, .val (.mov (.t 18)), some (130, true)⟩,
  ⟨some 132, .val (.field 0 (.t 5)), some (130, true)⟩,
  ⟨some 133, .val (.load1 (.t 132)), some (130, true)⟩,
  ⟨some 134, .val (.bin .neq false (.t 131) (.t 133)), some (130, true)⟩,
  ⟨some 135, .val (.mov (.t 134)), some (130, true)⟩,
  ⟨some 136, .val (.loadA 3 (.t 19)), some (135, false)⟩,
  ⟨some 137, .val (.loadA 3 (.t 17)), some (135, false)⟩,
  ⟨some 138, .val (.eqA true [0, 0, 2] (.t 136) (.t 137)), some (135, false)⟩,
  ⟨some 139, .val (.por (.t 135) (.t 138)), some (130, true)⟩,
  ⟨some 140, .val (.pand (.t 130) (.t 139)), some (124, false)⟩,
  ⟨some 141, .val (.por (.t 124) (.t 140)), none⟩,
  ⟨some 142, .val (.mov (.t 141)), none⟩,
  ⟨some 143, .val (.mov (.t 16)), some (142, false)⟩,
  ⟨some 144, .val (.bin .geq false (.t 143) (.k (.int .i64 10))), some (142, false)⟩,
  ⟨some 145, .val (.mov (.t 144)), some (142, false)⟩,
  ⟨some 146, .val (.mov (.t 18)), some (145, true)⟩,
  ⟨some 147, .val (.field 0 (.t 5)), some (145, true)⟩,
  ⟨some 148, .val (.load1 (.t 147)), some (145, true)⟩,
  ⟨some 149, .val (.bin .eql false (.t 146) (.t 148)), some (145, true)⟩,
  ⟨some 150, .val (.pand (.t 145) (.t 149)), some (142, false)⟩,
  ⟨some 151, .val (.mov (.t 150)), some (142, false)⟩,
  ⟨some 152, .val (.loadA 3 (.t 19)), some (151, true)⟩,
  ⟨some 153, .val (.loadA 3 (.t 17)), some (151, true)⟩,
  ⟨some 154, .val (.eqA true [0, 0, 2] (.t 152) (.t 153)), some (151, true)⟩,
  ⟨some 155, .val (.pand (.t 151) (.t 154)), some (142, false)⟩,
  ⟨some 156, .val (.por (.t 142) (.t 155)), none⟩]
def law13_StoreCrash_r25 : List AOper := [
  ⟨some 8, .val (.mov (.k (.bool false))), none⟩]
def law13_StoreCrash_r22 : List AOper := [
  ⟨some 110, .val (.mov (.t 18)), none⟩,
  ⟨some 111, .val (.bin .add true (.t 110) (.k (.int .i64 1))), none⟩,
  ⟨some 18, .val (.mov (.t 111)), none⟩]
def law13_StoreCrash_r26 (F : Nat → Nat) : List AOper := [
  ⟨some 157, .call (F 126) [], none⟩,
  ⟨some 8, .val (.mov (.t 157)), none⟩]
def law13_StoreCrash_c (F : Nat → Nat) : ACode :=
  (.seq
    (.reg law13_StoreCrash_r0 (some ([0, 2, 3, 5], [5])))
    (.seq
      (.reg (law13_StoreCrash_r1 F) (some ([0, 2, 3, 5, 9], [5, 9])))
      (.seq
        (.seq
          (.reg (law13_StoreCrash_r2 F) (some ([0, 2, 3, 5, 9, 57], [5, 9])))
          (.cond (.t 57)
            (.seq
              (.reg (law13_StoreCrash_r3 F) (some ([8], [])))
              .ret)
            .skip))
        (.seq
          (.reg law13_StoreCrash_r4 (some ([0, 2, 3, 5, 9, 11], [5, 9, 11])))
          (.seq
            (.seq
              (.reg law13_StoreCrash_r5 (some ([2, 3, 5, 9, 11, 59, 60, 61], [5, 9, 11])))
              (.block 0
                (.loop
                  (.seq
                    (.reg law13_StoreCrash_r6 (some ([2, 3, 5, 9, 11, 59, 60, 61, 62], [5, 9, 11])))
                    (.seq
                      (.cond (.t 62)
                        .skip
                        (.exit 0))
                      (.seq
                        (.block 1
                          (.seq
                            (.reg law13_StoreCrash_r7 (some ([2, 3, 5, 9, 11, 13, 59, 60, 61], [5, 9, 11, 13])))
                            (.seq
                              (.seq
                                (.reg (law13_StoreCrash_r8 F) (some ([2, 3, 5, 9, 11, 13, 59, 60, 61, 75], [5, 9, 11, 13])))
                                (.cond (.t 75)
                                  (.seq
                                    (.reg (law13_StoreCrash_r9 F) (some ([8], [])))
                                    .ret)
                                  .skip))
                              (.seq
                                (.reg (law13_StoreCrash_r10 F) (some ([2, 3, 5, 9, 11, 13, 14, 15, 59, 60, 61], [5, 9, 11, 13, 14])))
                                (.seq
                                  (.seq
                                    (.reg law13_StoreCrash_r11 (some ([2, 3, 5, 9, 11, 13, 14, 59, 60, 61, 84], [5, 9, 11, 13, 14])))
                                    (.cond (.t 84)
                                      (.seq
                                        (.reg law13_StoreCrash_r12 (some ([8], [])))
                                        .ret)
                                      .skip))
                                  (.regD law13_StoreCrash_r13 [(0, 4), (1, 4), (3, 4)] (some ([2, 3, 5, 9, 11, 59, 60, 61], [5, 9, 11]))))))))
                        (.reg law13_StoreCrash_r14 (some ([2, 3, 5, 9, 11, 59, 60, 61], [5, 9, 11])))))))))
            (.seq
              (.reg law13_StoreCrash_r15 (some ([3, 5, 9, 11, 16], [5, 9, 11])))
              (.seq
                (.regD (law13_StoreCrash_r16 F) [(0, 3), (3, 4), (3, 6), (5, 6)] (some ([5, 9, 11, 16], [5, 9, 11])))
                (.seq
                  (.reg law13_StoreCrash_r17 (some ([5, 9, 11, 16, 17], [5, 9, 11, 17])))
                  (.seq
                    (.seq
                      (.reg law13_StoreCrash_r18 (some ([5, 9, 11, 16, 17, 106], [5, 9, 11, 17])))
                      (.cond (.t 106)
                        (.reg law13_StoreCrash_r19 (some ([5, 9, 11, 16, 17], [5, 9, 11, 17])))
                        .skip))
                    (.seq
                      (.seq
                        (.reg law13_StoreCrash_r20 (some ([5, 9, 11, 16, 17, 18], [5, 9, 11, 17])))
                        (.block 2
                          (.loop
                            (.seq
                              (.seq
                                (.reg law13_StoreCrash_r21 (some ([5, 9, 11, 16, 17, 18, 109], [5, 9, 11, 17])))
                                (.cond (.t 109)
                                  .skip
                                  (.exit 2)))
                              (.seq
                                (.block 3
                                  (.seq
                                    (.reg (law13_StoreCrash_r23 F) (some ([5, 9, 11, 16, 17, 18, 19, 20], [5, 9, 11, 17, 19])))
                                    (.seq
                                      (.regD law13_StoreCrash_r24 [] (some ([5, 9, 11, 16, 17, 18, 156], [5, 9, 11, 17])))
                                      (.cond (.t 156)
                                        (.seq
                                          (.reg law13_StoreCrash_r25 (some ([8], [])))
                                          .ret)
                                        .skip))))
                                (.reg law13_StoreCrash_r22 (some ([5, 9, 11, 16, 17, 18], [5, 9, 11, 17]))))))))
                      (.seq
                        (.reg (law13_StoreCrash_r26 F) (some ([8], [])))
                        .ret)))))))))))
def law13_StoreCrash_k (P : Program) (F : Nat → Nat) : Prop := chkFn P (F 140) 4 (law13_StoreCrash_c F) [8] = true
def law13_awake_r0 : List AOper := [
  ⟨some 0, .val (.mov (.k (.bool false))), none⟩]
def law13_awake_r1 (F : Nat → Nat) : List AOper := [
  ⟨some 13, .call (F 28) [(.k (.int .i64 35))], none⟩,
  ⟨some 12, .val (.mov (.t 13)), none⟩,
  ⟨some 14, .val (.extr 0 (.t 12)), none⟩,
  ⟨some 15, .val (.extr 1 (.t 12)), none⟩,
  ⟨some 1, .alloc 2 [.nil 1, .nil 2], none⟩,
  ⟨none, .stA true 2 (.t 1) (.t 14), none⟩,
  ⟨some 2, .val (.mov (.t 15)), none⟩]
def law13_awake_r2 : List AOper := [
  ⟨some 16, .val (.build 3 [.int .i64 0, .int .i64 0, .str []] [(0, 1, (.k (.int .i64 4))), (1, 1, (.k (.int .i64 2))), (2, 1, (.k (.str [97, 98])))]), none⟩,
  ⟨some 3, .alloc 3 [.int .i64 0, .int .i64 0, .str []], none⟩,
  ⟨none, .stA true 3 (.t 3) (.t 16), none⟩]
def law13_awake_r3 (F : Nat → Nat) : List AOper := [
  ⟨some 18, .val (.loadA 2 (.t 1)), none⟩,
  ⟨some 19, .call (F 127) [(.t 18), (.k (.int .i64 4))], none⟩,
  ⟨some 17, .val (.mov (.t 19)), none⟩,
  ⟨some 20, .val (.extr 0 (.t 17)), none⟩,
  ⟨some 21, .val (.extr 1 (.t 17)), none⟩,
  ⟨some 4, .alloc 3 [.int .i64 0, .int .i64 0, .str []], none⟩,
  ⟨none, .stA true 3 (.t 4) (.t 20), none⟩,
  ⟨some 5, .val (.mov (.t 21)), none⟩]
def law13_awake_r4 (F : Nat → Nat) : List AOper := [
  ⟨some 23, .val (.loadA 2 (.t 1)), none⟩,
  ⟨some 24, .val (.loadA 3 (.t 3)), none⟩,
  ⟨some 25, .call (F 132) [(.t 23), (.t 24)], none⟩,
  ⟨some 22, .val (.mov (.t 25)), none⟩,
  ⟨some 26, .val (.extr 0 (.t 22)), none⟩,
  ⟨some 27, .val (.extr 1 (.t 22)), none⟩,
  ⟨none, .stA true 2 (.t 1) (.t 26), none⟩,
  ⟨some 6, .val (.mov (.t 27)), none⟩]
def law13_awake_r5 (F : Nat → Nat) : List AOper := [
  ⟨some 29, .val (.loadA 2 (.t 1)), none⟩,
  ⟨some 30, .call (F 127) [(.t 29), (.k (.int .i64 4))], none⟩,
  ⟨some 28, .val (.mov (.t 30)), none⟩,
  ⟨some 31, .val (.extr 0 (.t 28)), none⟩,
  ⟨some 32, .val (.extr 1 (.t 28)), none⟩,
  ⟨some 7, .alloc 3 [.int .i64 0, .int .i64 0, .str []], none⟩,
  ⟨none, .stA true 3 (.t 7) (.t 31), none⟩,
  ⟨some 8, .val (.mov (.t 32)), none⟩]
def law13_awake_r6 (F : Nat → Nat) : List AOper := [
  ⟨some 33, .val (.loadA 2 (.t 1)), none⟩,
  ⟨some 34, .call (F 135) [(.t 33)], none⟩,
  ⟨some 9, .val (.mov (.t 34)), none⟩]
def law13_awake_r7 (F : Nat → Nat) : List AOper := [
  ⟨some 36, .val (.loadA 2 (.t 1)), none⟩,
  ⟨some 37, .call (F 133) [(.t 36), (.k (.int .i64 4))], none⟩,
  ⟨some 35, .val (.mov (.t 37)), none⟩,
  ⟨some 38, .val (.extr 0 (.t 35)), none⟩,
  ⟨some 39, .val (.extr 1 (.t 35)), none⟩,
  ⟨some 10, .alloc 2 [.nil 1, .nil 2], none⟩,
  ⟨none, .stA true 2 (.t 10) (.t 38), none⟩,
  ⟨some 11, .val (.mov (.t 39)), none⟩]
def law13_awake_r8 (F : Nat → Nat) : List AOper := [
  ⟨some 40, .val (.mov (.t 5)), none⟩,
  ⟨some 41, .val (.bin .eql false (.t 40) (.k (.int .i64 3))), none⟩,
  ⟨some 42, .val (.mov (.t 41)), none⟩,
  ⟨some 43, .val (.mov (.t 6)), some (42, true)⟩,
  ⟨some 44, .val (.bin .eql false (.t 43) (.k (.int .i64 0))), some (42, true)⟩,
  ⟨some 45, .val (.pand (.t 42) (.t 44)), none⟩,
  ⟨some 46, .val (.mov (.t 45)), none⟩,
  ⟨some 47, .val (.loadA 3 (.t 7)), some (46, true)⟩,
  ⟨some 48, .val (.loadA 3 (.t 3)), some (46, true)⟩,
  ⟨some 49, .val (.eqA false [0, 0, 2] (.t 47) (.t 48)), some (46, true)⟩,
  ⟨some 50, .val (.pand (.t 46) (.t 49)), none⟩,
  ⟨some 51, .val (.mov (.t 50)), none⟩,
  ⟨some 52, .val (.mov (.t 8)), some (51, true)⟩,
  ⟨some 53, .val (.bin .eql false (.t 52) (.k (.int .i64 0))), some (51, true)⟩,
  ⟨some 54, .val (.pand (.t 51) (.t 53)), none⟩,
  ⟨some 55, .val (.mov (.t 54)), none⟩,
  ⟨some 56, .val (.mov (.t 9)), some (55, true)⟩,
  ⟨some 57, .val (.lenS (.t 56)), some (55, true)⟩,
  ⟨some 58, .val (.bin .eql false (.t 57) (.k (.int .i64 1))), some (55, true)⟩,
  ⟨some 59, .val (.pand (.t 55) (.t 58)), none⟩,
  ⟨some 60, .val (.mov (.t 59)), none⟩,
  ⟨some 61, .val (.mov (.t 9)), some (60, true)⟩,
  ⟨some 62, .val (.ixS 3 (.t 61) (.k (.int .i64 0))), some (60, true)⟩,
  ⟨some 63, .val (.loadA 3 (.t 62)), some (60, true)⟩,
  ⟨some 64, .val (.loadA 3 (.t 3)), some (60, true)⟩,
  ⟨some 65, .val (.eqA false [0, 0, 2] (.t 63) (.t 64)), some (60, true)⟩,
  ⟨some 66, .val (.pand (.t 60) (.t 65)), none⟩,
  ⟨some 67, .val (.mov (.t 66)), none⟩,
  ⟨some 68, .val (.mov (.t 11)), some (67, true)⟩,
  ⟨some 69, .val (.bin .eql false (.t 68) (.k (.int .i64 0))), some (67, true)⟩,
  ⟨some 70, .val (.pand (.t 67) (.t 69)), none⟩,
  ⟨some 71, .val (.mov (.t 70)), none⟩,
  ⟨some 72, .val (.loadA 2 (.t 10)), some (71, true)⟩,
  ⟨some 73, .call (F 135) [(.t 72)], some (71, true)⟩,
  ⟨some 74, .val (.lenS (.t 73)), some (71, true)⟩,
  ⟨some 75, .val (.bin .eql false (.t 74) (.k (.int .i64 0))), some (71, true)⟩,
  ⟨some 76, .val (.pand (.t 71) (.t 75)), none⟩,
  ⟨some 77, .val (.mov (.t 76)), none⟩,
  ⟨some 78, .val (.loadA 2 (.t 1)), some (77, true)⟩,
  ⟨some 79, .val (.loadA 3 (.t 3)), some (77, true)⟩,
  ⟨some 80, .call (F 130) [(.t 78), (.t 79)], some (77, true)⟩,
  ⟨some 81, .val (.lenS (.t 80)), some (77, true)⟩,
  ⟨some 82, .val (.bin .eql false (.t 81) (.k (.int .i64 10))), some (77, true)⟩,
  ⟨some 83, .val (.pand (.t 77) (.t 82)), none⟩,
  ⟨some 0, .val (.mov (.t 83)), none⟩]
def law13_awake_c (F : Nat → Nat) : ACode :=
  (.seq
    (.reg law13_awake_r0 (some ([], [])))
    (.seq
      (.reg (law13_awake_r1 F) (some ([1], [1])))
      (.seq
        (.reg law13_awake_r2 (some ([1, 3], [1, 3])))
        (.seq
          (.reg (law13_awake_r3 F) (some ([1, 3, 5], [1, 3])))
          (.seq
            (.reg (law13_awake_r4 F) (some ([1, 3, 5, 6], [1, 3])))
            (.seq
              (.reg (law13_awake_r5 F) (some ([1, 3, 5, 6, 7, 8], [1, 3, 7])))
              (.seq
                (.reg (law13_awake_r6 F) (some ([1, 3, 5, 6, 7, 8, 9], [1, 3, 7])))
                (.seq
                  (.reg (law13_awake_r7 F) (some ([1, 3, 5, 6, 7, 8, 9, 10, 11], [1, 3, 7, 10])))
                  (.seq
                    (.regD (law13_awake_r8 F) [] (some ([0], [])))
                    .ret)))))))))
def law13_awake_k (P : Program) (F : Nat → Nat) : Prop := chkFn P (F 126) 0 (law13_awake_c F) [0] = true
def store_Get_r0 : List AOper := [
  ⟨some 2, .box 2 (.t 0), none⟩,
  ⟨some 4, .alloc 3 [.int .i64 0, .int .i64 0, .str []], none⟩,
  ⟨some 5, .val (.mov (.k (.int .i64 0))), none⟩]
def store_Get_r1 (F : Nat → Nat) : List AOper := [
  ⟨some 10, .val (.loadA 2 (.t 2)), none⟩,
  ⟨some 11, .val (.mov (.t 1)), none⟩,
  ⟨some 12, .call (F 99) [(.t 10), (.t 11)], none⟩,
  ⟨some 9, .val (.mov (.t 12)), none⟩,
  ⟨some 13, .val (.extr 0 (.t 9)), none⟩,
  ⟨some 14, .val (.extr 1 (.t 9)), none⟩,
  ⟨some 6, .val (.mov (.t 13)), none⟩,
  ⟨some 7, .val (.mov (.t 14)), none⟩]
def store_Get_r2 : List AOper := [
  ⟨some 15, .val (.mov (.t 7)), none⟩,
  ⟨some 16, .val (.bin .neq false (.t 15) (.k (.int .i64 0))), none⟩]
def store_Get_r3 : List AOper := [
  ⟨some 17, .val (.build 3 [.int .i64 0, .int .i64 0, .str []] []), none⟩,
  ⟨some 18, .val (.mov (.t 7)), none⟩,
  ⟨none, .stA true 3 (.t 4) (.t 17), none⟩,
  ⟨some 5, .val (.mov (.t 18)), none⟩]
def store_Get_r4 (F : Nat → Nat) : List AOper := [
  ⟨some 20, .val (.mov (.t 6)), none⟩,
  ⟨some 21, .call (F 61) [(.t 20)], none⟩,
  ⟨some 19, .val (.mov (.t 21)), none⟩,
  ⟨some 22, .val (.extr 0 (.t 19)), none⟩,
  ⟨some 23, .val (.extr 1 (.t 19)), none⟩,
  ⟨some 8, .alloc 3 [.int .i64 0, .int .i64 0, .str []], none⟩,
  ⟨none, .stA true 3 (.t 8) (.t 22), none⟩,
  ⟨some 7, .val (.mov (.t 23)), none⟩]
def store_Get_r5 : List AOper := [
  ⟨some 24, .val (.mov (.t 7)), none⟩,
  ⟨some 25, .val (.bin .neq false (.t 24) (.k (.int .i64 0))), none⟩]
def store_Get_r6 : List AOper := [
  ⟨some 26, .val (.build 3 [.int .i64 0, .int .i64 0, .str []] []), none⟩,
  ⟨some 27, .val (.mov (.t 7)), none⟩,
  ⟨none, .stA true 3 (.t 4) (.t 26), none⟩,
  ⟨some 5, .val (.mov (.t 27)), none⟩]
def store_Get_r7 : List AOper := [
  ⟨some 28, .val (.field 0 (.t 8)), none⟩,
  ⟨some 29, .val (.load1 (.t 28)), none⟩,
  ⟨some 30, .val (.mov (.t 1)), none⟩,
  ⟨some 31, .val (.bin .neq false (.t 29) (.t 30)), none⟩]
def store_Get_r8 : List AOper := [
  ⟨some 32, .val (.build 3 [.int .i64 0, .int .i64 0, .str []] []), none⟩,
  ⟨none, .stA true 3 (.t 4) (.t 32), none⟩,
  ⟨some 5, .val (.mov (.k (.int .i64 9))), none⟩]
def store_Get_r9 : List AOper := [
  ⟨some 33, .val (.loadA 3 (.t 8)), none⟩,
  ⟨none, .stA true 3 (.t 4) (.t 33), none⟩,
  ⟨some 5, .val (.mov (.k (.int .i64 0))), none⟩]
def store_Get_c (F : Nat → Nat) : ACode :=
  (.seq
    (.reg store_Get_r0 (some ([1, 2, 4], [2, 4])))
    (.seq
      (.reg (store_Get_r1 F) (some ([1, 4, 6, 7], [4])))
      (.seq
        (.seq
          (.reg store_Get_r2 (some ([1, 4, 6, 7, 16], [4])))
          (.cond (.t 16)
            (.seq
              (.reg store_Get_r3 (some ([4, 5], [4])))
              .ret)
            .skip))
        (.seq
          (.reg (store_Get_r4 F) (some ([1, 4, 7, 8], [4, 8])))
          (.seq
            (.seq
              (.reg store_Get_r5 (some ([1, 4, 7, 8, 25], [4, 8])))
              (.cond (.t 25)
                (.seq
                  (.reg store_Get_r6 (some ([4, 5], [4])))
                  .ret)
                .skip))
            (.seq
              (.seq
                (.reg store_Get_r7 (some ([4, 8, 31], [4, 8])))
                (.cond (.t 31)
                  (.seq
                    (.reg store_Get_r8 (some ([4, 5], [4])))
                    .ret)
                  .skip))
              (.seq
                (.reg store_Get_r9 (some ([4, 5], [4])))
                .ret)))))))
def store_Get_k (P : Program) (F : Nat → Nat) : Prop := chkFn P (F 127) 2 (store_Get_c F) [.loadA 3 (.t 4), 5] = true
def ref13_Get_r0 : List AOper := [
  ⟨some 2, .box 2 (.t 0), none⟩,
  ⟨some 4, .alloc 3 [.int .i64 0, .int .i64 0, .str []], none⟩,
  ⟨some 5, .val (.mov (.k (.int .i64 0))), none⟩]
def ref13_Get_r1 (F : Nat → Nat) : List AOper := [
  ⟨some 8, .val (.loadA 2 (.t 2)), none⟩,
  ⟨some 9, .call (F 100) [(.t 8)], none⟩,
  ⟨some 10, .val (.not (.t 9)), none⟩,
  ⟨some 11, .val (.mov (.t 10)), none⟩,
  ⟨some 12, .val (.mov (.t 1)), some (11, false)⟩,
  ⟨some 13, .val (.bin .lss false (.t 12) (.k (.int .i64 1))), some (11, false)⟩,
  ⟨some 14, .val (.por (.t 11) (.t 13)), none⟩,
  ⟨some 15, .val (.mov (.t 14)), none⟩,
  ⟨some 16, .val (.mov (.t 1)), some (15, false)⟩,
  ⟨some 17, .val (.bin .gtr false (.t 16) (.k (.int .i64 16))), some (15, false)⟩,
  ⟨some 18, .val (.por (.t 15) (.t 17)), none⟩]
def ref13_Get_r2 : List AOper := [
  ⟨some 19, .val (.build 3 [.int .i64 0, .int .i64 0, .str []] []), none⟩,
  ⟨none, .stA true 3 (.t 4) (.t 19), none⟩,
  ⟨some 5, .val (.mov (.k (.int .i64 1))), none⟩]
def ref13_Get_r3 (F : Nat → Nat) : List AOper := [
  ⟨some 21, .val (.loadA 2 (.t 2)), none⟩,
  ⟨some 22, .val (.mov (.t 1)), none⟩,
  ⟨some 23, .call (F 101) [(.t 21), (.t 22)], none⟩,
  ⟨some 24, .call (F 64) [(.t 23)], none⟩,
  ⟨some 20, .val (.mov (.t 24)), none⟩,
  ⟨some 25, .val (.extr 0 (.t 20)), none⟩,
  ⟨some 26, .val (.extr 1 (.t 20)), none⟩,
  ⟨some 6, .alloc 3 [.int .i64 0, .int .i64 0, .str []], none⟩,
  ⟨none, .stA true 3 (.t 6) (.t 25), none⟩,
  ⟨some 7, .val (.mov (.t 26)), none⟩]
def ref13_Get_r4 : List AOper := [
  ⟨some 27, .val (.mov (.t 7)), none⟩,
  ⟨some 28, .val (.bin .neq false (.t 27) (.k (.int .i64 0))), none⟩]
def ref13_Get_r5 : List AOper := [
  ⟨some 29, .val (.build 3 [.int .i64 0, .int .i64 0, .str []] []), none⟩,
  ⟨some 30, .val (.mov (.t 7)), none⟩,
  ⟨none, .stA true 3 (.t 4) (.t 29), none⟩,
  ⟨some 5, .val (.mov (.t 30)), none⟩]
def ref13_Get_r6 : List AOper := [
  ⟨some 31, .val (.field 0 (.t 6)), none⟩,
  ⟨some 32, .val (.load1 (.t 31)), none⟩,
  ⟨some 33, .val (.mov (.t 1)), none⟩,
  ⟨some 34, .val (.bin .neq false (.t 32) (.t 33)), none⟩]
def ref13_Get_r7 : List AOper := [
  ⟨some 35, .val (.build 3 [.int .i64 0, .int .i64 0, .str []] []), none⟩,
  ⟨none, .stA true 3 (.t 4) (.t 35), none⟩,
  ⟨some 5, .val (.mov (.k (.int .i64 9))), none⟩]
def ref13_Get_r8 : List AOper := [
  ⟨some 36, .val (.loadA 3 (.t 6)), none⟩,
  ⟨none, .stA true 3 (.t 4) (.t 36), none⟩,
  ⟨some 5, .val (.mov (.k (.int .i64 0))), none⟩]
def ref13_Get_c (F : Nat → Nat) : ACode :=
  (.seq
    (.reg ref13_Get_r0 (some ([1, 2, 4], [2, 4])))
    (.seq
      (.seq
        (.reg (ref13_Get_r1 F) (some ([1, 2, 4, 18], [2, 4])))
        (.cond (.t 18)
          (.seq
            (.reg ref13_Get_r2 (some ([4, 5], [4])))
            .ret)
          .skip))
      (.seq
        (.reg (ref13_Get_r3 F) (some ([1, 4, 6, 7], [4, 6])))
        (.seq
          (.seq
            (.reg ref13_Get_r4 (some ([1, 4, 6, 7, 28], [4, 6])))
            (.cond (.t 28)
              (.seq
                (.reg ref13_Get_r5 (some ([4, 5], [4])))
                .ret)
              .skip))
          (.seq
            (.seq
              (.reg ref13_Get_r6 (some ([4, 6, 34], [4, 6])))
              (.cond (.t 34)
                (.seq
                  (.reg ref13_Get_r7 (some ([4, 5], [4])))
                  .ret)
                .skip))
            (.seq
              (.reg ref13_Get_r8 (some ([4, 5], [4])))
              .ret))))))
def ref13_Get_k (P : Program) (F : Nat → Nat) : Prop := chkFn P (F 128) 2 (ref13_Get_c F) [.loadA 3 (.t 4), 5] = true
def ref13_Steps_r0 : List AOper := [
  ⟨some 2, .box 2 (.t 0), none⟩,
  ⟨some 3, .box 3 (.t 1), none⟩,
  ⟨some 4, .val (.mov (.k (.nil 3))), none⟩]
def ref13_Steps_r1 (F : Nat → Nat) : List AOper := [
  ⟨some 5, .val (.loadA 2 (.t 2)), none⟩,
  ⟨some 6, .call (F 100) [(.t 5)], none⟩,
  ⟨some 7, .val (.not (.t 6)), none⟩,
  ⟨some 8, .val (.mov (.t 7)), none⟩,
  ⟨some 9, .val (.field 0 (.t 3)), some (8, false)⟩,
  ⟨some 10, .val (.load1 (.t 9)), some (8, false)⟩,
  ⟨some 11, .val (.bin .lss false (.t 10) (.k (.int .i64 1))), some (8, false)⟩,
  ⟨some 12, .val (.por (.t 8) (.t 11)), none⟩,
  ⟨some 13, .val (.mov (.t 12)), none⟩,
  ⟨some 14, .val (.field 0 (.t 3)), some (13, false)⟩,
  ⟨some 15, .val (.load1 (.t 14)), some (13, false)⟩,
  ⟨some 16, .val (.bin .gtr false (.t 15) (.k (.int .i64 16))), some (13, false)⟩,
  ⟨some 17, .val (.por (.t 13) (.t 16)), none⟩]
def ref13_Steps_r2 : List AOper := [
  ⟨some 4, .val (.mov (.k (.nil 3))), none⟩]
def ref13_Steps_r3 : List AOper := [
  ⟨some 18, .val (.field 1 (.t 3)), none⟩,
  ⟨some 19, .val (.load1 (.t 18)), none⟩,
  ⟨some 20, .val (.bin .eql false (.t 19) (.k (.int .i64 0))), none⟩,
  ⟨some 21, .val (.mov (.t 20)), none⟩,
  ⟨some 22, .val (.field 2 (.t 3)), some (21, true)⟩,
  ⟨some 23, .val (.load1 (.t 22)), some (21, true)⟩,
  ⟨some 24, .val (.bin .eql false (.t 23) (.k (.str []))), some (21, true)⟩,
  ⟨some 25, .val (.pand (.t 21) (.t 24)), none⟩]
def ref13_Steps_r4 (F : Nat → Nat) : List AOper := [
  ⟨some 26, .val (.field 0 (.t 3)), none⟩,
  ⟨some 27, .val (.load1 (.t 26)), none⟩,
  ⟨some 28, .call (F 141) [], none⟩,
  ⟨some 29, .call (F 102) [(.t 27), (.t 28)], none⟩,
  ⟨some 4, .val (.mov (.t 29)), none⟩]
def ref13_Steps_r5 (F : Nat → Nat) : List AOper := [
  ⟨some 30, .val (.loadA 3 (.t 3)), none⟩,
  ⟨some 31, .call (F 59) [(.t 30)], none⟩,
  ⟨some 32, .val (.not (.t 31)), none⟩]
def ref13_Steps_r6 : List AOper := [
  ⟨some 4, .val (.mov (.k (.nil 3))), none⟩]
def ref13_Steps_r7 (F : Nat → Nat) : List AOper := [
  ⟨some 33, .val (.field 0 (.t 3)), none⟩,
  ⟨some 34, .val (.load1 (.t 33)), none⟩,
  ⟨some 35, .val (.loadA 3 (.t 3)), none⟩,
  ⟨some 36, .call (F 62) [(.t 35)], none⟩,
  ⟨some 37, .call (F 102) [(.t 34), (.t 36)], none⟩,
  ⟨some 4, .val (.mov (.t 37)), none⟩]
def ref13_Steps_c (F : Nat → Nat) : ACode :=
  (.seq
    (.reg ref13_Steps_r0 (some ([2, 3], [2, 3])))
    (.seq
      (.seq
        (.reg (ref13_Steps_r1 F) (some ([3, 17], [3])))
        (.cond (.t 17)
          (.seq
            (.reg ref13_Steps_r2 (some ([4], [])))
            .ret)
          .skip))
      (.seq
        (.seq
          (.reg ref13_Steps_r3 (some ([3, 25], [3])))
          (.cond (.t 25)
            (.seq
              (.regD (ref13_Steps_r4 F) [(0, 2), (1, 2)] (some ([4], [])))
              .ret)
            .skip))
        (.seq
          (.seq
            (.reg (ref13_Steps_r5 F) (some ([3, 32], [3])))
            (.cond (.t 32)
              (.seq
                (.reg ref13_Steps_r6 (some ([4], [])))
                .ret)
              .skip))
          (.seq
            (.regD (ref13_Steps_r7 F) [(0, 3), (1, 3)] (some ([4], [])))
            .ret)))))
def ref13_Steps_k (P : Program) (F : Nat → Nat) : Prop := chkFn P (F 129) 2 (ref13_Steps_c F) [4] = true
def law13_refs_r0 : List AOper := [
  ⟨some 2, .val (.mov (.k (.nil 3))), none⟩]
def law13_refs_r1 : List AOper := [
  ⟨some 3, .val (.mov (.k (.nil 3))), none⟩]
def law13_refs_r2 : List AOper := [
  ⟨some 6, .val (.mov (.t 0)), none⟩,
  ⟨some 7, .val (.lenS (.t 6)), none⟩,
  ⟨some 8, .val (.mov (.k (.int .i64 0))), none⟩]
def law13_refs_r3 : List AOper := [
  ⟨some 9, .val (.bin .lss false (.t 8) (.t 7)), none⟩]
def law13_refs_r4 : List AOper := [
  ⟨some 10, .val (.ixS 3 (.t 6) (.t 8)), none⟩,
  ⟨some 11, .val (.loadA 3 (.t 10)), none⟩,
  ⟨some 5, .alloc 3 [.bool false, .int .i64 0, .str []], none⟩,
  ⟨none, .stA true 3 (.t 5) (.t 11), none⟩]
def law13_refs_r5 : List AOper := [
  ⟨some 12, .val (.mov (.t 3)), none⟩,
  ⟨some 13, .val (.loadA 3 (.t 5)), none⟩,
  ⟨some 14, .buildS 3 1 [.bool false, .int .i64 0, .str []] [(0, (.t 13))], none⟩,
  ⟨some 15, .app 3 32 (.t 12) (.t 14), none⟩,
  ⟨some 3, .val (.mov (.t 15)), none⟩]
def law13_refs_r6 : List AOper := [
  ⟨some 16, .val (.bin .add true (.t 8) (.k (.int .i64 1))), none⟩,
  ⟨some 8, .val (.mov (.t 16)), none⟩]
def law13_refs_r7 : List AOper := [
  ⟨some 17, .val (.mov (.t 3)), none⟩,
  ⟨some 2, .val (.mov (.t 17)), none⟩]
def law13_refs_c : ACode :=
  (.seq
    (.reg law13_refs_r0 (some ([0], [14, 15])))
    (.seq
      (.reg law13_refs_r1 (some ([0, 3], [14, 15])))
      (.seq
        (.seq
          (.reg law13_refs_r2 (some ([3, 6, 7, 8], [14, 15])))
          (.block 0
            (.loop
              (.seq
                (.reg law13_refs_r3 (some ([3, 6, 7, 8, 9], [14, 15])))
                (.seq
                  (.cond (.t 9)
                    .skip
                    (.exit 0))
                  (.seq
                    (.block 1
                      (.seq
                        (.reg law13_refs_r4 (some ([3, 5, 6, 7, 8], [5, 14, 15])))
                        (.reg law13_refs_r5 (some ([3, 6, 7, 8], [14, 15])))))
                    (.reg law13_refs_r6 (some ([3, 6, 7, 8], [14, 15])))))))))
        (.seq
          (.reg law13_refs_r7 (some ([2], [14, 15])))
          .ret))))
def law13_refs_k (P : Program) (F : Nat → Nat) : Prop := chkFn P (F 131) 1 (law13_refs_c) [2] = true
def store_Steps_r0 : List AOper := [
  ⟨some 2, .box 2 (.t 0), none⟩,
  ⟨some 3, .box 3 (.t 1), none⟩,
  ⟨some 4, .val (.mov (.k (.nil 3))), none⟩]
def store_Steps_r1 (F : Nat → Nat) : List AOper := [
  ⟨some 10, .call (F 142) [], none⟩,
  ⟨some 5, .val (.mov (.t 10)), none⟩]
def store_Steps_r2 : List AOper := [
  ⟨some 11, .val (.field 1 (.t 3)), none⟩,
  ⟨some 12, .val (.load1 (.t 11)), none⟩,
  ⟨some 13, .val (.bin .neq false (.t 12) (.k (.int .i64 0))), none⟩,
  ⟨some 14, .val (.mov (.t 13)), none⟩,
  ⟨some 15, .val (.field 2 (.t 3)), some (14, false)⟩,
  ⟨some 16, .val (.load1 (.t 15)), some (14, false)⟩,
  ⟨some 17, .val (.bin .neq false (.t 16) (.k (.str []))), some (14, false)⟩,
  ⟨some 18, .val (.por (.t 14) (.t 17)), none⟩]
def store_Steps_r3 (F : Nat → Nat) : List AOper := [
  ⟨some 20, .val (.loadA 3 (.t 3)), none⟩,
  ⟨some 21, .call (F 58) [(.t 20)], none⟩,
  ⟨some 19, .val (.mov (.t 21)), none⟩,
  ⟨some 22, .val (.extr 0 (.t 19)), none⟩,
  ⟨some 23, .val (.extr 1 (.t 19)), none⟩,
  ⟨some 6, .val (.mov (.t 22)), none⟩,
  ⟨some 7, .val (.mov (.t 23)), none⟩]
def store_Steps_r4 : List AOper := [
  ⟨some 24, .val (.mov (.t 7)), none⟩,
  ⟨some 25, .val (.bin .neq false (.t 24) (.k (.int .i64 0))), none⟩]
def store_Steps_r5 : List AOper := [
  ⟨some 4, .val (.mov (.k (.nil 3))), none⟩]
def store_Steps_r6 : List AOper := [
  ⟨some 26, .val (.mov (.t 6)), none⟩,
  ⟨some 5, .val (.mov (.t 26)), none⟩]
def store_Steps_r7 (F : Nat → Nat) : List AOper := [
  ⟨some 28, .val (.loadA 2 (.t 2)), none⟩,
  ⟨some 29, .val (.field 0 (.t 3)), none⟩,
  ⟨some 30, .val (.load1 (.t 29)), none⟩,
  ⟨some 31, .val (.mov (.t 5)), none⟩,
  ⟨some 32, .call (F 97) [(.t 28), (.t 30), (.t 31)], none⟩,
  ⟨some 27, .val (.mov (.t 32)), none⟩,
  ⟨some 33, .val (.extr 0 (.t 27)), none⟩,
  ⟨some 34, .val (.extr 1 (.t 27)), none⟩,
  ⟨some 8, .val (.mov (.t 33)), none⟩,
  ⟨some 9, .val (.mov (.t 34)), none⟩]
def store_Steps_r8 : List AOper := [
  ⟨some 35, .val (.mov (.t 9)), none⟩,
  ⟨some 36, .val (.bin .neq false (.t 35) (.k (.int .i64 0))), none⟩]
def store_Steps_r9 : List AOper := [
  ⟨some 4, .val (.mov (.k (.nil 3))), none⟩]
def store_Steps_r10 : List AOper := [
  ⟨some 37, .val (.mov (.t 8)), none⟩,
  ⟨some 4, .val (.mov (.t 37)), none⟩]
def store_Steps_c (F : Nat → Nat) : ACode :=
  (.seq
    (.reg store_Steps_r0 (some ([2, 3], [2, 3])))
    (.seq
      (.reg (store_Steps_r1 F) (some ([2, 3, 5], [2, 3])))
      (.seq
        (.seq
          (.reg store_Steps_r2 (some ([2, 3, 5, 18], [2, 3])))
          (.cond (.t 18)
            (.seq
              (.reg (store_Steps_r3 F) (some ([2, 3, 6, 7], [2, 3])))
              (.seq
                (.seq
                  (.reg store_Steps_r4 (some ([2, 3, 6, 25], [2, 3])))
                  (.cond (.t 25)
                    (.seq
                      (.reg store_Steps_r5 (some ([4], [])))
                      .ret)
                    .skip))
                (.reg store_Steps_r6 (some ([2, 3, 5], [2, 3])))))
            .skip))
        (.seq
          (.reg (store_Steps_r7 F) (some ([8, 9], [])))
          (.seq
            (.seq
              (.reg store_Steps_r8 (some ([8, 36], [])))
              (.cond (.t 36)
                (.seq
                  (.reg store_Steps_r9 (some ([4], [])))
                  .ret)
                .skip))
            (.seq
              (.reg store_Steps_r10 (some ([4], [])))
              .ret))))))
def store_Steps_k (P : Program) (F : Nat → Nat) : Prop := chkFn P (F 130) 2 (store_Steps_c F) [4] = true
def store_Set_r0 : List AOper := [
  ⟨some 2, .box 2 (.t 0), none⟩,
  ⟨some 3, .box 3 (.t 1), none⟩,
  ⟨some 4, .alloc 2 [.nil 1, .nil 2], none⟩,
  ⟨some 5, .val (.mov (.k (.int .i64 0))), none⟩]
def store_Set_r1 (F : Nat → Nat) : List AOper := [
  ⟨some 9, .val (.loadA 3 (.t 3)), none⟩,
  ⟨some 10, .call (F 58) [(.t 9)], none⟩,
  ⟨some 8, .val (.mov (.t 10)), none⟩,
  ⟨some 11, .val (.extr 0 (.t 8)), none⟩,
  ⟨some 12, .val (.extr 1 (.t 8)), none⟩,
  ⟨some 6, .val (.mov (.t 11)), none⟩,
  ⟨some 7, .val (.mov (.t 12)), none⟩]
def store_Set_r2 : List AOper := [
  ⟨some 13, .val (.mov (.t 7)), none⟩,
  ⟨some 14, .val (.bin .neq false (.t 13) (.k (.int .i64 0))), none⟩]
def store_Set_r3 : List AOper := [
  ⟨some 15, .val (.loadA 2 (.t 2)), none⟩,
  ⟨some 16, .val (.mov (.t 7)), none⟩,
  ⟨none, .stA true 2 (.t 4) (.t 15), none⟩,
  ⟨some 5, .val (.mov (.t 16)), none⟩]
def store_Set_r4 (F : Nat → Nat) : List AOper := [
  ⟨some 17, .val (.loadA 2 (.t 2)), none⟩,
  ⟨some 18, .val (.field 0 (.t 3)), none⟩,
  ⟨some 19, .val (.load1 (.t 18)), none⟩,
  ⟨some 20, .val (.mov (.t 6)), none⟩,
  ⟨some 21, .call (F 143) [(.t 17), (.t 19), (.t 20)], none⟩,
  ⟨some 22, .val (.extr 0 (.t 21)), none⟩,
  ⟨some 23, .val (.extr 1 (.t 21)), none⟩,
  ⟨none, .stA true 2 (.t 4) (.t 22), none⟩,
  ⟨some 5, .val (.mov (.t 23)), none⟩]
def store_Set_c (F : Nat → Nat) : ACode :=
  (.seq
    (.reg store_Set_r0 (some ([2, 3, 4], [2, 3, 4])))
    (.seq
      (.reg (store_Set_r1 F) (some ([2, 3, 4, 6, 7], [2, 3, 4])))
      (.seq
        (.seq
          (.reg store_Set_r2 (some ([2, 3, 4, 6, 7, 14], [2, 3, 4])))
          (.cond (.t 14)
            (.seq
              (.reg store_Set_r3 (some ([4, 5], [4])))
              .ret)
            .skip))
        (.seq
          (.reg (store_Set_r4 F) (some ([4, 5], [4])))
          .ret))))
def store_Set_k (P : Program) (F : Nat → Nat) : Prop := chkFn P (F 132) 2 (store_Set_c F) [.loadA 2 (.t 4), 5] = true
def store_Del_r0 : List AOper := [
  ⟨some 2, .box 2 (.t 0), none⟩,
  ⟨some 4, .alloc 2 [.nil 1, .nil 2], none⟩,
  ⟨some 5, .val (.mov (.k (.int .i64 0))), none⟩]
def store_Del_r1 (F : Nat → Nat) : List AOper := [
  ⟨some 6, .val (.loadA 2 (.t 2)), none⟩,
  ⟨some 7, .val (.mov (.t 1)), none⟩,
  ⟨some 8, .call (F 142) [], none⟩,
  ⟨some 9, .call (F 143) [(.t 6), (.t 7), (.t 8)], none⟩,
  ⟨some 10, .val (.extr 0 (.t 9)), none⟩,
  ⟨some 11, .val (.extr 1 (.t 9)), none⟩,
  ⟨none, .stA true 2 (.t 4) (.t 10), none⟩,
  ⟨some 5, .val (.mov (.t 11)), none⟩]
def store_Del_c (F : Nat → Nat) : ACode :=
  (.seq
    (.reg store_Del_r0 (some ([1, 2, 4], [2, 4])))
    (.seq
      (.regD (store_Del_r1 F) [(0, 2), (1, 2)] (some ([4, 5], [4])))
      .ret))
def store_Del_k (P : Program) (F : Nat → Nat) : Prop := chkFn P (F 133) 2 (store_Del_c F) [.loadA 2 (.t 4), 5] = true
def store_List_r0 : List AOper := [
  ⟨some 1, .box 2 (.t 0), none⟩,
  ⟨some 2, .val (.mov (.k (.nil 3))), none⟩]
def store_List_r1 : List AOper := [
  ⟨some 3, .val (.mov (.k (.nil 3))), none⟩]
def store_List_r2 : List AOper := [
  ⟨some 4, .val (.mov (.k (.int .i64 1))), none⟩]
def store_List_r3 : List AOper := [
  ⟨some 7, .val (.mov (.t 4)), none⟩,
  ⟨some 8, .val (.bin .leq false (.t 7) (.k (.int .i64 16))), none⟩]
def store_List_r5 (F : Nat → Nat) : List AOper := [
  ⟨some 12, .val (.loadA 2 (.t 1)), none⟩,
  ⟨some 13, .val (.mov (.t 4)), none⟩,
  ⟨some 14, .call (F 127) [(.t 12), (.t 13)], none⟩,
  ⟨some 11, .val (.mov (.t 14)), none⟩,
  ⟨some 15, .val (.extr 0 (.t 11)), none⟩,
  ⟨some 16, .val (.extr 1 (.t 11)), none⟩,
  ⟨some 5, .alloc 3 [.int .i64 0, .int .i64 0, .str []], none⟩,
  ⟨none, .stA true 3 (.t 5) (.t 15), none⟩,
  ⟨some 6, .val (.mov (.t 16)), none⟩]
def store_List_r6 : List AOper := [
  ⟨some 17, .val (.mov (.t 6)), none⟩,
  ⟨some 18, .val (.bin .eql false (.t 17) (.k (.int .i64 0))), none⟩]
def store_List_r7 : List AOper := [
  ⟨some 19, .val (.mov (.t 3)), none⟩,
  ⟨some 20, .val (.loadA 3 (.t 5)), none⟩,
  ⟨some 21, .buildS 3 1 [.int .i64 0, .int .i64 0, .str []] [(0, (.t 20))], none⟩,
  ⟨some 22, .app 3 32 (.t 19) (.t 21), none⟩,
  ⟨some 3, .val (.mov (.t 22)), none⟩]
def store_List_r4 : List AOper := [
  ⟨some 9, .val (.mov (.t 4)), none⟩,
  ⟨some 10, .val (.bin .add true (.t 9) (.k (.int .i64 1))), none⟩,
  ⟨some 4, .val (.mov (.t 10)), none⟩]
def store_List_r8 : List AOper := [
  ⟨some 23, .val (.mov (.t 3)), none⟩,
  ⟨some 2, .val (.mov (.t 23)), none⟩]
def store_List_c (F : Nat → Nat) : ACode :=
  (.seq
    (.reg store_List_r0 (some ([1], [1, 21, 22])))
    (.seq
      (.reg store_List_r1 (some ([1, 3], [1, 21, 22])))
      (.seq
        (.seq
          (.reg store_List_r2 (some ([1, 3, 4], [1, 21, 22])))
          (.block 0
            (.loop
              (.seq
                (.seq
                  (.reg store_List_r3 (some ([1, 3, 4, 8], [1, 21, 22])))
                  (.cond (.t 8)
                    .skip
                    (.exit 0)))
                (.seq
                  (.block 1
                    (.seq
                      (.reg (store_List_r5 F) (some ([1, 3, 4, 5, 6], [1, 5, 21, 22])))
                      (.seq
                        (.reg store_List_r6 (some ([1, 3, 4, 5, 18], [1, 5, 21, 22])))
                        (.cond (.t 18)
                          (.reg store_List_r7 (some ([1, 3, 4], [1, 21, 22])))
                          .skip))))
                  (.reg store_List_r4 (some ([1, 3, 4], [1, 21, 22]))))))))
        (.seq
          (.reg store_List_r8 (some ([2], [21, 22])))
          .ret))))
def store_List_k (P : Program) (F : Nat → Nat) : Prop := chkFn P (F 135) 1 (store_List_c F) [2] = true
def ref13_Noughts_r0 : List AOper := [
  ⟨some 0, .val (.mov (.k (.str []))), none⟩]
def ref13_Noughts_r1 : List AOper := [
  ⟨some 1, .val (.mov (.k (.str []))), none⟩]
def ref13_Noughts_r2 : List AOper := [
  ⟨some 2, .val (.mov (.k (.int .i64 0))), none⟩]
def ref13_Noughts_r3 : List AOper := [
  ⟨some 3, .val (.mov (.t 2)), none⟩,
  ⟨some 4, .val (.bin .lss false (.t 3) (.k (.int .i64 32))), none⟩]
def ref13_Noughts_r5 : List AOper := [
  ⟨some 7, .val (.mov (.t 1)), none⟩,
  ⟨some 8, .buildS 1 1 [.int .u8 0] [(0, (.k (.int .u8 0)))], none⟩,
  ⟨some 9, .val (.b2s (.t 8)), none⟩,
  ⟨some 10, .val (.bin .add false (.t 7) (.t 9)), none⟩,
  ⟨some 1, .val (.mov (.t 10)), none⟩]
def ref13_Noughts_r4 : List AOper := [
  ⟨some 5, .val (.mov (.t 2)), none⟩,
  ⟨some 6, .val (.bin .add true (.t 5) (.k (.int .i64 1))), none⟩,
  ⟨some 2, .val (.mov (.t 6)), none⟩]
def ref13_Noughts_r6 : List AOper := [
  ⟨some 11, .val (.mov (.t 1)), none⟩,
  ⟨some 0, .val (.mov (.t 11)), none⟩]
def ref13_Noughts_c : ACode :=
  (.seq
    (.reg ref13_Noughts_r0 (some ([], [8])))
    (.seq
      (.reg ref13_Noughts_r1 (some ([1], [8])))
      (.seq
        (.seq
          (.reg ref13_Noughts_r2 (some ([1, 2], [8])))
          (.block 0
            (.loop
              (.seq
                (.seq
                  (.reg ref13_Noughts_r3 (some ([1, 2, 4], [8])))
                  (.cond (.t 4)
                    .skip
                    (.exit 0)))
                (.seq
                  (.block 1
                    (.reg ref13_Noughts_r5 (some ([1, 2], [8]))))
                  (.reg ref13_Noughts_r4 (some ([1, 2], [8]))))))))
        (.seq
          (.reg ref13_Noughts_r6 (some ([0], [8])))
          .ret))))
def ref13_Noughts_k (P : Program) (F : Nat → Nat) : Prop := chkFn P (F 141) 0 (ref13_Noughts_c) [0] = true
def store_noughts_r0 : List AOper := [
  ⟨some 0, .val (.mov (.k (.str []))), none⟩]
def store_noughts_r1 (F : Nat → Nat) : List AOper := [
  ⟨some 1, .call (F 49) [(.k (.str [0])), (.k (.int .i64 32))], none⟩,
  ⟨some 0, .val (.mov (.t 1)), none⟩]
def store_noughts_c (F : Nat → Nat) : ACode :=
  (.seq
    (.reg store_noughts_r0 (some ([], [])))
    (.seq
      (.reg (store_noughts_r1 F) (some ([0], [])))
      .ret))
def store_noughts_k (P : Program) (F : Nat → Nat) : Prop := chkFn P (F 142) 0 (store_noughts_c F) [0] = true
def store_commit_r0 : List AOper := [
  ⟨some 3, .box 2 (.t 0), none⟩,
  ⟨some 6, .alloc 2 [.nil 1, .nil 2], none⟩,
  ⟨some 7, .val (.mov (.k (.int .i64 0))), none⟩]
def store_commit_r1 (F : Nat → Nat) : List AOper := [
  ⟨some 11, .val (.loadA 2 (.t 3)), none⟩,
  ⟨some 12, .val (.mov (.t 1)), none⟩,
  ⟨some 13, .val (.mov (.t 2)), none⟩,
  ⟨some 14, .call (F 98) [(.t 11), (.t 12), (.t 13)], none⟩,
  ⟨some 10, .val (.mov (.t 14)), none⟩,
  ⟨some 15, .val (.extr 0 (.t 10)), none⟩,
  ⟨some 16, .val (.extr 1 (.t 10)), none⟩,
  ⟨some 8, .alloc 2 [.nil 1, .nil 2], none⟩,
  ⟨none, .stA true 2 (.t 8) (.t 15), none⟩,
  ⟨some 9, .val (.mov (.t 16)), none⟩]
def store_commit_r2 : List AOper := [
  ⟨some 17, .val (.mov (.t 9)), none⟩,
  ⟨some 18, .val (.bin .neq false (.t 17) (.k (.int .i64 0))), none⟩]
def store_commit_r3 : List AOper := [
  ⟨some 19, .val (.loadA 2 (.t 3)), none⟩,
  ⟨some 20, .val (.mov (.t 9)), none⟩,
  ⟨none, .stA true 2 (.t 6) (.t 19), none⟩,
  ⟨some 7, .val (.mov (.t 20)), none⟩]
def store_commit_r4 : List AOper := [
  ⟨some 21, .val (.loadA 2 (.t 8)), none⟩,
  ⟨none, .stA true 2 (.t 6) (.t 21), none⟩,
  ⟨some 7, .val (.mov (.k (.int .i64 0))), none⟩]
def store_commit_c (F : Nat → Nat) : ACode :=
  (.seq
    (.reg store_commit_r0 (some ([1, 2, 3, 6], [3, 6])))
    (.seq
      (.reg (store_commit_r1 F) (some ([3, 6, 8, 9], [3, 6, 8])))
      (.seq
        (.seq
          (.reg store_commit_r2 (some ([3, 6, 8, 9, 18], [3, 6, 8])))
          (.cond (.t 18)
            (.seq
              (.reg store_commit_r3 (some ([6, 7], [6])))
              .ret)
            .skip))
        (.seq
          (.reg store_commit_r4 (some ([6, 7], [6])))
          .ret))))
def store_commit_k (P : Program) (F : Nat → Nat) : Prop := chkFn P (F 143) 3 (store_commit_c F) [.loadA 2 (.t 6), 7] = true
end Lk.C
