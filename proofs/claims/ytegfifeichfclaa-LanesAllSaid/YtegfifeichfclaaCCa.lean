/-
  CCa: what these chapters need.
-/
import Derived.Test.YtegfifeichfclaaLkC
set_option linter.unusedSimpArgs false
set_option linter.unusedVariables false
namespace Lk.C
open Go Lk
def law05_LanesAll_r0 : List AOper := [
  ⟨some 4, .val (.mov (.k (.bool false))), none⟩]
def law05_LanesAll_r1 : List AOper := [
  ⟨some 5, .val (.mov (.k (.nil 1))), none⟩]
def law05_LanesAll_r2 : List AOper := [
  ⟨some 6, .val (.mov (.k (.int .i64 0))), none⟩]
def law05_LanesAll_r3 : List AOper := [
  ⟨some 25, .val (.mov (.t 6)), none⟩,
  ⟨some 26, .val (.mov (.t 0)), none⟩,
  ⟨some 27, .val (.lenS (.t 26)), none⟩,
  ⟨some 28, .val (.bin .lss false (.t 25) (.t 27)), none⟩,
  ⟨some 29, .val (.mov (.t 28)), none⟩,
  ⟨some 30, .val (.mov (.t 6)), some (29, true)⟩,
  ⟨some 31, .val (.bin .lss false (.t 30) (.k (.int .i64 6))), some (29, true)⟩,
  ⟨some 32, .val (.pand (.t 29) (.t 31)), none⟩]
def law05_LanesAll_r5 : List AOper := [
  ⟨some 35, .val (.mov (.t 5)), none⟩,
  ⟨some 36, .val (.mov (.t 0)), none⟩,
  ⟨some 37, .val (.mov (.t 6)), none⟩,
  ⟨some 38, .val (.ixS 1 (.t 36) (.t 37)), none⟩,
  ⟨some 39, .val (.load1 (.t 38)), none⟩,
  ⟨some 40, .val (.bin .rem true (.t 39) (.k (.int .u8 8))), none⟩,
  ⟨some 41, .val (.conv true .i64 (.t 40)), none⟩,
  ⟨some 42, .val (.bin .add true (.k (.int .i64 1)) (.t 41)), none⟩,
  ⟨some 43, .buildS 1 1 [.int .i64 0] [(0, (.t 42))], none⟩,
  ⟨some 44, .app 1 8 (.t 35) (.t 43), none⟩,
  ⟨some 5, .val (.mov (.t 44)), none⟩]
def law05_LanesAll_r4 : List AOper := [
  ⟨some 33, .val (.mov (.t 6)), none⟩,
  ⟨some 34, .val (.bin .add true (.t 33) (.k (.int .i64 1))), none⟩,
  ⟨some 6, .val (.mov (.t 34)), none⟩]
def law05_LanesAll_r6 (F : Nat → Nat) : List AOper := [
  ⟨some 46, .val (.mov (.t 5)), none⟩,
  ⟨some 47, .call (F 75) [(.t 46)], none⟩,
  ⟨some 45, .val (.mov (.t 47)), none⟩,
  ⟨some 48, .val (.extr 0 (.t 45)), none⟩,
  ⟨some 49, .val (.extr 1 (.t 45)), none⟩,
  ⟨some 7, .alloc 3 [.nil 3, .int .i64 0, .bool false], none⟩,
  ⟨none, .stA true 3 (.t 7) (.t 48), none⟩,
  ⟨some 8, .val (.mov (.t 49)), none⟩]
def law05_LanesAll_r7 : List AOper := [
  ⟨some 50, .val (.mov (.t 8)), none⟩,
  ⟨some 51, .val (.bin .neq false (.t 50) (.k (.int .i64 0))), none⟩]
def law05_LanesAll_r8 (F : Nat → Nat) : List AOper := [
  ⟨some 52, .val (.mov (.t 5)), none⟩,
  ⟨some 53, .val (.lenS (.t 52)), none⟩,
  ⟨some 54, .val (.bin .eql false (.t 53) (.k (.int .i64 0))), none⟩,
  ⟨some 55, .val (.mov (.t 54)), none⟩,
  ⟨some 56, .val (.mov (.t 8)), some (55, true)⟩,
  ⟨some 57, .val (.bin .eql false (.t 56) (.k (.int .i64 1))), some (55, true)⟩,
  ⟨some 58, .val (.pand (.t 55) (.t 57)), none⟩,
  ⟨some 59, .val (.mov (.t 58)), none⟩,
  ⟨some 60, .call (F 81) [], some (59, true)⟩,
  ⟨some 61, .val (.pand (.t 59) (.t 60)), none⟩,
  ⟨some 4, .val (.mov (.t 61)), none⟩]
def law05_LanesAll_r9 : List AOper := [
  ⟨some 62, .val (.mov (.t 5)), none⟩,
  ⟨some 63, .val (.lenS (.t 62)), none⟩,
  ⟨some 64, .mk 1 24 [.nil 1] (.t 63), none⟩,
  ⟨some 9, .val (.mov (.t 64)), none⟩]
def law05_LanesAll_r10 : List AOper := [
  ⟨some 65, .val (.mov (.t 1)), none⟩,
  ⟨some 66, .val (.lenS (.t 65)), none⟩,
  ⟨some 67, .val (.mm false (.t 66) [(.k (.int .i64 150))]), none⟩,
  ⟨some 10, .val (.mov (.t 67)), none⟩]
def law05_LanesAll_r11 : List AOper := [
  ⟨some 68, .val (.mov (.t 1)), none⟩,
  ⟨some 69, .val (.mov (.t 10)), none⟩,
  ⟨some 70, .val (.slS 2 (.t 68) none (some (.t 69))), none⟩,
  ⟨some 71, .val (.lenS (.t 70)), none⟩,
  ⟨some 72, .val (.mov (.k (.int .i64 0))), none⟩]
def law05_LanesAll_r12 : List AOper := [
  ⟨some 73, .val (.bin .lss false (.t 72) (.t 71)), none⟩]
def law05_LanesAll_r13 : List AOper := [
  ⟨some 74, .val (.ixS 2 (.t 70) (.t 72)), none⟩,
  ⟨some 75, .val (.loadR 2 (.t 74)), none⟩,
  ⟨some 12, .allocR 2 1 [.int .u8 0], none⟩,
  ⟨none, .stR 2 (.t 12) (.t 75), none⟩]
def law05_LanesAll_r14 : List AOper := [
  ⟨some 76, .val (.ixA 1 2 (.t 12) (.k (.int .i64 0))), none⟩,
  ⟨some 77, .val (.load1 (.t 76)), none⟩,
  ⟨some 78, .val (.conv true .i64 (.t 77)), none⟩,
  ⟨some 79, .val (.mov (.t 5)), none⟩,
  ⟨some 80, .val (.lenS (.t 79)), none⟩,
  ⟨some 81, .val (.bin .rem true (.t 78) (.t 80)), none⟩,
  ⟨some 82, .val (.ixA 1 2 (.t 12) (.k (.int .i64 1))), none⟩,
  ⟨some 83, .val (.load1 (.t 82)), none⟩,
  ⟨some 84, .val (.bin .rem true (.t 83) (.k (.int .u8 8))), none⟩,
  ⟨some 85, .val (.conv true .i64 (.t 84)), none⟩,
  ⟨some 86, .val (.bin .add true (.k (.int .i64 1)) (.t 85)), none⟩,
  ⟨some 13, .val (.mov (.t 81)), none⟩,
  ⟨some 14, .val (.mov (.t 86)), none⟩]
def law05_LanesAll_r15 (F : Nat → Nat) : List AOper := [
  ⟨some 88, .val (.loadA 3 (.t 7)), none⟩,
  ⟨some 89, .val (.mov (.t 13)), none⟩,
  ⟨some 90, .val (.mov (.t 14)), none⟩,
  ⟨some 91, .call (F 79) [(.t 88), (.t 89), (.t 90)], none⟩,
  ⟨some 87, .val (.mov (.t 91)), none⟩,
  ⟨some 92, .val (.extr 0 (.t 87)), none⟩,
  ⟨some 93, .val (.extr 1 (.t 87)), none⟩,
  ⟨some 15, .alloc 3 [.nil 3, .int .i64 0, .bool false], none⟩,
  ⟨none, .stA true 3 (.t 15) (.t 92), none⟩,
  ⟨some 16, .val (.mov (.t 93)), none⟩]
def law05_LanesAll_r16 : List AOper := [
  ⟨some 94, .val (.mov (.t 16)), none⟩,
  ⟨some 95, .val (.bin .neq false (.t 94) (.k (.int .i64 0))), none⟩]
def law05_LanesAll_r17 : List AOper := [
  ⟨some 4, .val (.mov (.k (.bool false))), none⟩]
def law05_LanesAll_r18 : List AOper := [
  ⟨some 96, .val (.mov (.t 9)), none⟩,
  ⟨some 97, .val (.mov (.t 13)), none⟩,
  ⟨some 98, .val (.mov (.t 9)), none⟩,
  ⟨some 99, .val (.mov (.t 13)), none⟩,
  ⟨some 100, .val (.ixS 1 (.t 98) (.t 99)), none⟩,
  ⟨some 101, .val (.load1 (.t 100)), none⟩,
  ⟨some 102, .val (.mov (.t 14)), none⟩,
  ⟨some 103, .buildS 1 1 [.int .i64 0] [(0, (.t 102))], none⟩,
  ⟨some 104, .app 1 8 (.t 101) (.t 103), none⟩,
  ⟨some 105, .val (.ixS 1 (.t 96) (.t 97)), none⟩,
  ⟨none, .st1 true (.t 105) (.t 104), none⟩]
def law05_LanesAll_r19 : List AOper := [
  ⟨some 106, .val (.loadA 3 (.t 15)), none⟩,
  ⟨none, .stA true 3 (.t 7) (.t 106), none⟩]
def law05_LanesAll_r20 : List AOper := [
  ⟨some 107, .val (.bin .add true (.t 72) (.k (.int .i64 1))), none⟩,
  ⟨some 72, .val (.mov (.t 107)), none⟩]
def law05_LanesAll_r21 : List AOper := [
  ⟨some 108, .val (.mov (.t 10)), none⟩,
  ⟨some 109, .val (.mov (.k (.int .i64 0))), none⟩]
def law05_LanesAll_r22 : List AOper := [
  ⟨some 110, .val (.bin .lss false (.t 109) (.t 108)), none⟩]
def law05_LanesAll_r23 (F : Nat → Nat) : List AOper := [
  ⟨some 112, .val (.loadA 3 (.t 7)), none⟩,
  ⟨some 113, .call (F 86) [(.t 112)], none⟩,
  ⟨some 111, .val (.mov (.t 113)), none⟩,
  ⟨some 114, .val (.extr 0 (.t 111)), none⟩,
  ⟨some 115, .val (.extr 1 (.t 111)), none⟩,
  ⟨some 116, .val (.extr 2 (.t 111)), none⟩,
  ⟨some 117, .val (.extr 3 (.t 111)), none⟩,
  ⟨some 17, .alloc 3 [.nil 3, .int .i64 0, .bool false], none⟩,
  ⟨none, .stA true 3 (.t 17) (.t 114), none⟩,
  ⟨some 18, .val (.mov (.t 115)), none⟩,
  ⟨some 19, .val (.mov (.t 116)), none⟩,
  ⟨some 20, .val (.mov (.t 117)), none⟩]
def law05_LanesAll_r24 : List AOper := [
  ⟨some 118, .val (.mov (.t 20)), none⟩,
  ⟨some 119, .val (.not (.t 118)), none⟩,
  ⟨some 120, .val (.mov (.t 119)), none⟩,
  ⟨some 121, .val (.mov (.t 18)), some (120, false)⟩,
  ⟨some 122, .val (.bin .lss false (.t 121) (.k (.int .i64 0))), some (120, false)⟩,
  ⟨some 123, .val (.por (.t 120) (.t 122)), none⟩,
  ⟨some 124, .val (.mov (.t 123)), none⟩,
  ⟨some 125, .val (.mov (.t 18)), some (124, false)⟩,
  ⟨some 126, .val (.mov (.t 5)), some (124, false)⟩,
  ⟨some 127, .val (.lenS (.t 126)), some (124, false)⟩,
  ⟨some 128, .val (.bin .geq false (.t 125) (.t 127)), some (124, false)⟩,
  ⟨some 129, .val (.por (.t 124) (.t 128)), none⟩,
  ⟨some 130, .val (.mov (.t 129)), none⟩,
  ⟨some 131, .val (.mov (.t 9)), some (130, false)⟩,
  ⟨some 132, .val (.mov (.t 18)), some (130, false)⟩,
  ⟨some 133, .val (.ixS 1 (.t 131) (.t 132)), some (130, false)⟩,
  ⟨some 134, .val (.load1 (.t 133)), some (130, false)⟩,
  ⟨some 135, .val (.lenS (.t 134)), some (130, false)⟩,
  ⟨some 136, .val (.bin .eql false (.t 135) (.k (.int .i64 0))), some (130, false)⟩,
  ⟨some 137, .val (.por (.t 130) (.t 136)), none⟩,
  ⟨some 138, .val (.mov (.t 137)), none⟩,
  ⟨some 139, .val (.mov (.t 9)), some (138, false)⟩,
  ⟨some 140, .val (.mov (.t 18)), some (138, false)⟩,
  ⟨some 141, .val (.ixS 1 (.t 139) (.t 140)), some (138, false)⟩,
  ⟨some 142, .val (.load1 (.t 141)), some (138, false)⟩,
  ⟨some 143, .val (.ixS 1 (.t 142) (.k (.int .i64 0))), some (138, false)⟩,
  ⟨some 144, .val (.load1 (.t 143)), some (138, false)⟩,
  ⟨some 145, .val (.mov (.t 19)), some (138, false)⟩,
  ⟨some 146, .val (.bin .neq false (.t 144) (.t 145)), some (138, false)⟩,
  ⟨some 147, .val (.por (.t 138) (.t 146)), none⟩]
def law05_LanesAll_r25 : List AOper := [
  ⟨some 4, .val (.mov (.k (.bool false))), none⟩]
def law05_LanesAll_r26 : List AOper := [
  ⟨some 148, .val (.mov (.t 9)), none⟩,
  ⟨some 149, .val (.mov (.t 18)), none⟩,
  ⟨some 150, .val (.mov (.t 9)), none⟩,
  ⟨some 151, .val (.mov (.t 18)), none⟩,
  ⟨some 152, .val (.ixS 1 (.t 150) (.t 151)), none⟩,
  ⟨some 153, .val (.load1 (.t 152)), none⟩,
  ⟨some 154, .val (.slS 1 (.t 153) (some (.k (.int .i64 1))) none), none⟩,
  ⟨some 155, .val (.ixS 1 (.t 148) (.t 149)), none⟩,
  ⟨none, .st1 false (.t 155) (.t 154), none⟩]
def law05_LanesAll_r27 : List AOper := [
  ⟨some 156, .val (.loadA 3 (.t 17)), none⟩,
  ⟨none, .stA true 3 (.t 7) (.t 156), none⟩]
def law05_LanesAll_r28 : List AOper := [
  ⟨some 157, .val (.bin .add true (.t 109) (.k (.int .i64 1))), none⟩,
  ⟨some 109, .val (.mov (.t 157)), none⟩]
def law05_LanesAll_r29 (F : Nat → Nat) : List AOper := [
  ⟨some 159, .val (.loadA 3 (.t 7)), none⟩,
  ⟨some 160, .call (F 86) [(.t 159)], none⟩,
  ⟨some 158, .val (.mov (.t 160)), none⟩,
  ⟨some 161, .val (.extr 0 (.t 158)), none⟩,
  ⟨some 162, .val (.extr 1 (.t 158)), none⟩,
  ⟨some 163, .val (.extr 2 (.t 158)), none⟩,
  ⟨some 164, .val (.extr 3 (.t 158)), none⟩,
  ⟨some 21, .alloc 3 [.nil 3, .int .i64 0, .bool false], none⟩,
  ⟨none, .stA true 3 (.t 21) (.t 161), none⟩,
  ⟨some 22, .val (.mov (.t 162)), none⟩,
  ⟨some 23, .val (.mov (.t 163)), none⟩,
  ⟨some 24, .val (.mov (.t 164)), none⟩]
def law05_LanesAll_r30 (F : Nat → Nat) : List AOper := [
  ⟨some 165, .val (.mov (.t 24)), none⟩,
  ⟨some 166, .val (.not (.t 165)), none⟩,
  ⟨some 167, .val (.mov (.t 166)), none⟩,
  ⟨some 168, .call (F 81) [], some (167, true)⟩,
  ⟨some 169, .val (.pand (.t 167) (.t 168)), none⟩,
  ⟨some 4, .val (.mov (.t 169)), none⟩]
def law05_LanesAll_c (F : Nat → Nat) : ACode :=
  (.seq
    (.reg law05_LanesAll_r0 (some ([0, 1], [43, 44, 64, 103, 104, 2000, 2001, 2002, 2003, 2004, 2005])))
    (.seq
      (.reg law05_LanesAll_r1 (some ([0, 1, 5], [43, 44, 64, 103, 104, 2000, 2001, 2002, 2003, 2004, 2005])))
      (.seq
        (.seq
          (.reg law05_LanesAll_r2 (some ([0, 1, 5, 6], [43, 44, 64, 103, 104, 2000, 2001, 2002, 2003, 2004, 2005])))
          (.block 0
            (.loop
              (.seq
                (.seq
                  (.reg law05_LanesAll_r3 (some ([0, 1, 5, 6, 32], [43, 44, 64, 103, 104, 2000, 2001, 2002, 2003, 2004, 2005])))
                  (.cond (.t 32)
                    .skip
                    (.exit 0)))
                (.seq
                  (.block 1
                    (.reg law05_LanesAll_r5 (some ([0, 1, 5, 6], [43, 44, 64, 103, 104, 2000, 2001, 2002, 2003, 2004, 2005]))))
                  (.reg law05_LanesAll_r4 (some ([0, 1, 5, 6], [43, 44, 64, 103, 104, 2000, 2001, 2002, 2003, 2004, 2005]))))))))
        (.seq
          (.reg (law05_LanesAll_r6 F) (some ([1, 5, 7, 8], [7, 43, 44, 64, 103, 104, 2000, 2001, 2002, 2003, 2004, 2005])))
          (.seq
            (.seq
              (.reg law05_LanesAll_r7 (some ([1, 5, 7, 8, 51], [7, 43, 44, 64, 103, 104, 2000, 2001, 2002, 2003, 2004, 2005])))
              (.cond (.t 51)
                (.seq
                  (.reg (law05_LanesAll_r8 F) (some ([4], [43, 44, 64, 103, 104, 2000, 2001, 2002, 2003, 2004, 2005])))
                  .ret)
                .skip))
            (.seq
              (.reg law05_LanesAll_r9 (some ([1, 5, 7, 9], [7, 43, 44, 64, 103, 104, 2000, 2001, 2002, 2003, 2004, 2005])))
              (.seq
                (.reg law05_LanesAll_r10 (some ([1, 5, 7, 9, 10], [7, 43, 44, 64, 103, 104, 2000, 2001, 2002, 2003, 2004, 2005])))
                (.seq
                  (.seq
                    (.reg law05_LanesAll_r11 (some ([5, 7, 9, 10, 70, 71, 72], [7, 43, 44, 64, 103, 104, 2000, 2001, 2002, 2003, 2004, 2005])))
                    (.block 2
                      (.loop
                        (.seq
                          (.reg law05_LanesAll_r12 (some ([5, 7, 9, 10, 70, 71, 72, 73], [7, 43, 44, 64, 103, 104, 2000, 2001, 2002, 2003, 2004, 2005])))
                          (.seq
                            (.cond (.t 73)
                              .skip
                              (.exit 2))
                            (.seq
                              (.block 3
                                (.seq
                                  (.reg law05_LanesAll_r13 (some ([5, 7, 9, 10, 12, 70, 71, 72], [7, 12, 43, 44, 64, 103, 104, 2000, 2001, 2002, 2003, 2004, 2005])))
                                  (.seq
                                    (.regD law05_LanesAll_r14 [] (some ([5, 7, 9, 10, 13, 14, 70, 71, 72], [7, 43, 44, 64, 103, 104, 2000, 2001, 2002, 2003, 2004, 2005])))
                                    (.seq
                                      (.reg (law05_LanesAll_r15 F) (some ([5, 7, 9, 10, 13, 14, 15, 16, 70, 71, 72], [7, 15, 43, 44, 64, 103, 104, 2000, 2001, 2002, 2003, 2004, 2005])))
                                      (.seq
                                        (.seq
                                          (.reg law05_LanesAll_r16 (some ([5, 7, 9, 10, 13, 14, 15, 70, 71, 72, 95], [7, 15, 43, 44, 64, 103, 104, 2000, 2001, 2002, 2003, 2004, 2005])))
                                          (.cond (.t 95)
                                            (.seq
                                              (.reg law05_LanesAll_r17 (some ([4], [43, 44, 64, 103, 104, 2000, 2001, 2002, 2003, 2004, 2005])))
                                              .ret)
                                            .skip))
                                        (.seq
                                          (.reg law05_LanesAll_r18 (some ([5, 7, 9, 10, 15, 70, 71, 72], [7, 15, 43, 44, 64, 103, 104, 2000, 2001, 2002, 2003, 2004, 2005])))
                                          (.reg law05_LanesAll_r19 (some ([5, 7, 9, 10, 70, 71, 72], [7, 43, 44, 64, 103, 104, 2000, 2001, 2002, 2003, 2004, 2005])))))))))
                              (.reg law05_LanesAll_r20 (some ([5, 7, 9, 10, 70, 71, 72], [7, 43, 44, 64, 103, 104, 2000, 2001, 2002, 2003, 2004, 2005])))))))))
                  (.seq
                    (.seq
                      (.reg law05_LanesAll_r21 (some ([5, 7, 9, 108, 109], [7, 43, 44, 64, 103, 104, 2000, 2001, 2002, 2003, 2004, 2005])))
                      (.block 4
                        (.loop
                          (.seq
                            (.reg law05_LanesAll_r22 (some ([5, 7, 9, 108, 109, 110], [7, 43, 44, 64, 103, 104, 2000, 2001, 2002, 2003, 2004, 2005])))
                            (.seq
                              (.cond (.t 110)
                                .skip
                                (.exit 4))
                              (.seq
                                (.block 5
                                  (.seq
                                    (.reg (law05_LanesAll_r23 F) (some ([5, 7, 9, 17, 18, 19, 20, 108, 109], [7, 17, 43, 44, 64, 103, 104, 2000, 2001, 2002, 2003, 2004, 2005])))
                                    (.seq
                                      (.seq
                                        (.reg law05_LanesAll_r24 (some ([5, 7, 9, 17, 18, 108, 109, 147], [7, 17, 43, 44, 64, 103, 104, 2000, 2001, 2002, 2003, 2004, 2005])))
                                        (.cond (.t 147)
                                          (.seq
                                            (.reg law05_LanesAll_r25 (some ([4], [43, 44, 64, 103, 104, 2000, 2001, 2002, 2003, 2004, 2005])))
                                            .ret)
                                          .skip))
                                      (.seq
                                        (.reg law05_LanesAll_r26 (some ([5, 7, 9, 17, 108, 109], [7, 17, 43, 44, 64, 103, 104, 2000, 2001, 2002, 2003, 2004, 2005])))
                                        (.reg law05_LanesAll_r27 (some ([5, 7, 9, 108, 109], [7, 43, 44, 64, 103, 104, 2000, 2001, 2002, 2003, 2004, 2005])))))))
                                (.reg law05_LanesAll_r28 (some ([5, 7, 9, 108, 109], [7, 43, 44, 64, 103, 104, 2000, 2001, 2002, 2003, 2004, 2005])))))))))
                    (.seq
                      (.reg (law05_LanesAll_r29 F) (some ([24], [43, 44, 64, 103, 104, 2000, 2001, 2002, 2003, 2004, 2005])))
                      (.seq
                        (.reg (law05_LanesAll_r30 F) (some ([4], [43, 44, 64, 103, 104, 2000, 2001, 2002, 2003, 2004, 2005])))
                        .ret)))))))))))
def law05_LanesAll_k (P : Program) (F : Nat → Nat) : Prop := chkFn P (F 89) 2 (law05_LanesAll_c F) [4] = true
def law05_awake_r0 : List AOper := [
  ⟨some 0, .val (.mov (.k (.bool false))), none⟩]
def law05_awake_r1 (F : Nat → Nat) : List AOper := [
  ⟨some 16, .buildS 1 2 [.int .i64 0] [(0, (.k (.int .i64 1))), (1, (.k (.int .i64 2)))], none⟩,
  ⟨some 17, .call (F 75) [(.t 16)], none⟩,
  ⟨some 15, .val (.mov (.t 17)), none⟩,
  ⟨some 18, .val (.extr 0 (.t 15)), none⟩,
  ⟨some 19, .val (.extr 1 (.t 15)), none⟩,
  ⟨some 1, .alloc 3 [.nil 3, .int .i64 0, .bool false], none⟩,
  ⟨none, .stA true 3 (.t 1) (.t 18), none⟩,
  ⟨some 2, .val (.mov (.t 19)), none⟩]
def law05_awake_r2 (F : Nat → Nat) : List AOper := [
  ⟨some 21, .val (.loadA 3 (.t 1)), none⟩,
  ⟨some 22, .call (F 79) [(.t 21), (.k (.int .i64 0)), (.k (.int .i64 4))], none⟩,
  ⟨some 20, .val (.mov (.t 22)), none⟩,
  ⟨some 23, .val (.extr 0 (.t 20)), none⟩,
  ⟨some 24, .val (.extr 1 (.t 20)), none⟩,
  ⟨none, .stA true 3 (.t 1) (.t 23), none⟩,
  ⟨some 3, .val (.mov (.t 24)), none⟩]
def law05_awake_r3 (F : Nat → Nat) : List AOper := [
  ⟨some 26, .val (.loadA 3 (.t 1)), none⟩,
  ⟨some 27, .call (F 79) [(.t 26), (.k (.int .i64 1)), (.k (.int .i64 8))], none⟩,
  ⟨some 25, .val (.mov (.t 27)), none⟩,
  ⟨some 28, .val (.extr 0 (.t 25)), none⟩,
  ⟨some 29, .val (.extr 1 (.t 25)), none⟩,
  ⟨none, .stA true 3 (.t 1) (.t 28), none⟩,
  ⟨some 4, .val (.mov (.t 29)), none⟩]
def law05_awake_r4 (F : Nat → Nat) : List AOper := [
  ⟨some 31, .val (.loadA 3 (.t 1)), none⟩,
  ⟨some 32, .call (F 86) [(.t 31)], none⟩,
  ⟨some 30, .val (.mov (.t 32)), none⟩,
  ⟨some 33, .val (.extr 0 (.t 30)), none⟩,
  ⟨some 34, .val (.extr 1 (.t 30)), none⟩,
  ⟨some 35, .val (.extr 2 (.t 30)), none⟩,
  ⟨some 36, .val (.extr 3 (.t 30)), none⟩,
  ⟨none, .stA true 3 (.t 1) (.t 33), none⟩,
  ⟨some 5, .val (.mov (.t 34)), none⟩,
  ⟨some 6, .val (.mov (.t 35)), none⟩,
  ⟨some 7, .val (.mov (.t 36)), none⟩]
def law05_awake_r5 (F : Nat → Nat) : List AOper := [
  ⟨some 38, .val (.loadA 3 (.t 1)), none⟩,
  ⟨some 39, .call (F 86) [(.t 38)], none⟩,
  ⟨some 37, .val (.mov (.t 39)), none⟩,
  ⟨some 40, .val (.extr 0 (.t 37)), none⟩,
  ⟨some 41, .val (.extr 1 (.t 37)), none⟩,
  ⟨some 42, .val (.extr 2 (.t 37)), none⟩,
  ⟨some 43, .val (.extr 3 (.t 37)), none⟩,
  ⟨none, .stA true 3 (.t 1) (.t 40), none⟩,
  ⟨some 8, .val (.mov (.t 41)), none⟩,
  ⟨some 9, .val (.mov (.t 42)), none⟩,
  ⟨some 10, .val (.mov (.t 43)), none⟩]
def law05_awake_r6 (F : Nat → Nat) : List AOper := [
  ⟨some 45, .val (.loadA 3 (.t 1)), none⟩,
  ⟨some 46, .call (F 86) [(.t 45)], none⟩,
  ⟨some 44, .val (.mov (.t 46)), none⟩,
  ⟨some 47, .val (.extr 0 (.t 44)), none⟩,
  ⟨some 48, .val (.extr 1 (.t 44)), none⟩,
  ⟨some 49, .val (.extr 2 (.t 44)), none⟩,
  ⟨some 50, .val (.extr 3 (.t 44)), none⟩,
  ⟨some 11, .alloc 3 [.nil 3, .int .i64 0, .bool false], none⟩,
  ⟨none, .stA true 3 (.t 11) (.t 47), none⟩,
  ⟨some 12, .val (.mov (.t 48)), none⟩,
  ⟨some 13, .val (.mov (.t 49)), none⟩,
  ⟨some 14, .val (.mov (.t 50)), none⟩]
def law05_awake_r7 (F : Nat → Nat) : List AOper := [
  ⟨some 51, .val (.mov (.t 2)), none⟩,
  ⟨some 52, .val (.bin .eql false (.t 51) (.k (.int .i64 0))), none⟩,
  ⟨some 53, .val (.mov (.t 52)), none⟩,
  ⟨some 54, .val (.mov (.t 3)), some (53, true)⟩,
  ⟨some 55, .val (.bin .eql false (.t 54) (.k (.int .i64 0))), some (53, true)⟩,
  ⟨some 56, .val (.pand (.t 53) (.t 55)), none⟩,
  ⟨some 57, .val (.mov (.t 56)), none⟩,
  ⟨some 58, .val (.mov (.t 4)), some (57, true)⟩,
  ⟨some 59, .val (.bin .eql false (.t 58) (.k (.int .i64 0))), some (57, true)⟩,
  ⟨some 60, .val (.pand (.t 57) (.t 59)), none⟩,
  ⟨some 61, .val (.mov (.t 60)), none⟩,
  ⟨some 62, .val (.mov (.t 5)), some (61, true)⟩,
  ⟨some 63, .val (.bin .eql false (.t 62) (.k (.int .i64 0))), some (61, true)⟩,
  ⟨some 64, .val (.pand (.t 61) (.t 63)), none⟩,
  ⟨some 65, .val (.mov (.t 64)), none⟩,
  ⟨some 66, .val (.mov (.t 6)), some (65, true)⟩,
  ⟨some 67, .val (.bin .eql false (.t 66) (.k (.int .i64 4))), some (65, true)⟩,
  ⟨some 68, .val (.pand (.t 65) (.t 67)), none⟩,
  ⟨some 69, .val (.mov (.t 68)), none⟩,
  ⟨some 70, .val (.mov (.t 7)), some (69, true)⟩,
  ⟨some 71, .val (.pand (.t 69) (.t 70)), none⟩,
  ⟨some 72, .val (.mov (.t 71)), none⟩,
  ⟨some 73, .val (.mov (.t 8)), some (72, true)⟩,
  ⟨some 74, .val (.bin .eql false (.t 73) (.k (.int .i64 1))), some (72, true)⟩,
  ⟨some 75, .val (.pand (.t 72) (.t 74)), none⟩,
  ⟨some 76, .val (.mov (.t 75)), none⟩,
  ⟨some 77, .val (.mov (.t 9)), some (76, true)⟩,
  ⟨some 78, .val (.bin .eql false (.t 77) (.k (.int .i64 8))), some (76, true)⟩,
  ⟨some 79, .val (.pand (.t 76) (.t 78)), none⟩,
  ⟨some 80, .val (.mov (.t 79)), none⟩,
  ⟨some 81, .val (.mov (.t 10)), some (80, true)⟩,
  ⟨some 82, .val (.pand (.t 80) (.t 81)), none⟩,
  ⟨some 83, .val (.mov (.t 82)), none⟩,
  ⟨some 84, .val (.mov (.t 14)), some (83, true)⟩,
  ⟨some 85, .val (.not (.t 84)), some (83, true)⟩,
  ⟨some 86, .val (.pand (.t 83) (.t 85)), none⟩,
  ⟨some 87, .val (.mov (.t 86)), none⟩,
  ⟨some 88, .val (.por (.t 87) (.k (.bool false))), none⟩,
  ⟨some 89, .val (.mov (.t 88)), none⟩,
  ⟨some 90, .val (.loadA 3 (.t 1)), some (89, true)⟩,
  ⟨some 91, .call (F 76) [(.t 90)], some (89, true)⟩,
  ⟨some 92, .val (.pand (.t 89) (.t 91)), none⟩,
  ⟨some 0, .val (.mov (.t 92)), none⟩]
def law05_awake_c (F : Nat → Nat) : ACode :=
  (.seq
    (.reg law05_awake_r0 (some ([], [16])))
    (.seq
      (.reg (law05_awake_r1 F) (some ([1, 2], [1, 16])))
      (.seq
        (.reg (law05_awake_r2 F) (some ([1, 2, 3], [1, 16])))
        (.seq
          (.reg (law05_awake_r3 F) (some ([1, 2, 3, 4], [1, 16])))
          (.seq
            (.reg (law05_awake_r4 F) (some ([1, 2, 3, 4, 5, 6, 7], [1, 16])))
            (.seq
              (.reg (law05_awake_r5 F) (some ([1, 2, 3, 4, 5, 6, 7, 8, 9, 10], [1, 16])))
              (.seq
                (.reg (law05_awake_r6 F) (some ([1, 2, 3, 4, 5, 6, 7, 8, 9, 10, 14], [1, 16])))
                (.seq
                  (.reg (law05_awake_r7 F) (some ([0], [16])))
                  .ret))))))))
def law05_awake_k (P : Program) (F : Nat → Nat) : Prop := chkFn P (F 81) 0 (law05_awake_c F) [0] = true
def lanes_New_r0 : List AOper := [
  ⟨some 2, .alloc 3 [.nil 3, .int .i64 0, .bool false], none⟩,
  ⟨some 3, .val (.mov (.k (.int .i64 0))), none⟩]
def lanes_New_r1 : List AOper := [
  ⟨some 7, .val (.mov (.t 0)), none⟩,
  ⟨some 8, .val (.lenS (.t 7)), none⟩,
  ⟨some 9, .val (.bin .lss false (.t 8) (.k (.int .i64 1))), none⟩,
  ⟨some 10, .val (.mov (.t 9)), none⟩,
  ⟨some 11, .val (.mov (.t 0)), some (10, false)⟩,
  ⟨some 12, .val (.lenS (.t 11)), some (10, false)⟩,
  ⟨some 13, .val (.bin .gtr false (.t 12) (.k (.int .i64 6))), some (10, false)⟩,
  ⟨some 14, .val (.por (.t 10) (.t 13)), none⟩]
def lanes_New_r2 : List AOper := [
  ⟨some 15, .val (.build 3 [.nil 3, .int .i64 0, .bool false] []), none⟩,
  ⟨none, .stA true 3 (.t 2) (.t 15), none⟩,
  ⟨some 3, .val (.mov (.k (.int .i64 1))), none⟩]
def lanes_New_r3 : List AOper := [
  ⟨some 16, .val (.mov (.t 0)), none⟩,
  ⟨some 17, .val (.lenS (.t 16)), none⟩,
  ⟨some 18, .mk 3 40 [.int .i64 0, .int .i64 0, .nil 1] (.t 17), none⟩,
  ⟨some 4, .val (.mov (.t 18)), none⟩]
def lanes_New_r4 : List AOper := [
  ⟨some 19, .val (.mov (.t 0)), none⟩,
  ⟨some 20, .val (.lenS (.t 19)), none⟩,
  ⟨some 21, .val (.mov (.k (.int .i64 0))), none⟩]
def lanes_New_r5 : List AOper := [
  ⟨some 22, .val (.bin .lss false (.t 21) (.t 20)), none⟩]
def lanes_New_r6 : List AOper := [
  ⟨some 23, .val (.mov (.t 21)), none⟩,
  ⟨some 24, .val (.ixS 1 (.t 19) (.t 21)), none⟩,
  ⟨some 25, .val (.load1 (.t 24)), none⟩,
  ⟨some 5, .val (.mov (.t 23)), none⟩,
  ⟨some 6, .val (.mov (.t 25)), none⟩]
def lanes_New_r7 : List AOper := [
  ⟨some 26, .val (.mov (.t 6)), none⟩,
  ⟨some 27, .val (.bin .lss false (.t 26) (.k (.int .i64 1))), none⟩,
  ⟨some 28, .val (.mov (.t 27)), none⟩,
  ⟨some 29, .val (.mov (.t 6)), some (28, false)⟩,
  ⟨some 30, .val (.bin .gtr false (.t 29) (.k (.int .i64 8))), some (28, false)⟩,
  ⟨some 31, .val (.por (.t 28) (.t 30)), none⟩]
def lanes_New_r8 : List AOper := [
  ⟨some 32, .val (.build 3 [.nil 3, .int .i64 0, .bool false] []), none⟩,
  ⟨none, .stA true 3 (.t 2) (.t 32), none⟩,
  ⟨some 3, .val (.mov (.k (.int .i64 1))), none⟩]
def lanes_New_r9 : List AOper := [
  ⟨some 33, .val (.mov (.t 4)), none⟩,
  ⟨some 34, .val (.mov (.t 5)), none⟩,
  ⟨some 35, .val (.mov (.t 6)), none⟩,
  ⟨some 36, .val (.ixS 3 (.t 33) (.t 34)), none⟩,
  ⟨some 37, .val (.field 0 (.t 36)), none⟩,
  ⟨none, .st1 false (.t 37) (.t 35), none⟩]
def lanes_New_r10 : List AOper := [
  ⟨some 38, .val (.bin .add true (.t 21) (.k (.int .i64 1))), none⟩,
  ⟨some 21, .val (.mov (.t 38)), none⟩]
def lanes_New_r11 : List AOper := [
  ⟨some 39, .val (.mov (.t 4)), none⟩,
  ⟨some 40, .val (.build 3 [.nil 3, .int .i64 0, .bool false] [(0, 1, (.t 39))]), none⟩,
  ⟨none, .stA true 3 (.t 2) (.t 40), none⟩,
  ⟨some 3, .val (.mov (.k (.int .i64 0))), none⟩]
def lanes_New_c : ACode :=
  (.seq
    (.reg lanes_New_r0 (some ([0, 2], [2, 18])))
    (.seq
      (.seq
        (.reg lanes_New_r1 (some ([0, 2, 14], [2, 18])))
        (.cond (.t 14)
          (.seq
            (.reg lanes_New_r2 (some ([2, 3], [2, 18])))
            .ret)
          .skip))
      (.seq
        (.reg lanes_New_r3 (some ([0, 2, 4], [2, 18])))
        (.seq
          (.seq
            (.reg lanes_New_r4 (some ([2, 4, 19, 20, 21], [2, 18])))
            (.block 0
              (.loop
                (.seq
                  (.reg lanes_New_r5 (some ([2, 4, 19, 20, 21, 22], [2, 18])))
                  (.seq
                    (.cond (.t 22)
                      .skip
                      (.exit 0))
                    (.seq
                      (.block 1
                        (.seq
                          (.reg lanes_New_r6 (some ([2, 4, 5, 6, 19, 20, 21], [2, 18])))
                          (.seq
                            (.seq
                              (.reg lanes_New_r7 (some ([2, 4, 5, 6, 19, 20, 21, 31], [2, 18])))
                              (.cond (.t 31)
                                (.seq
                                  (.reg lanes_New_r8 (some ([2, 3], [2, 18])))
                                  .ret)
                                .skip))
                            (.reg lanes_New_r9 (some ([2, 4, 19, 20, 21], [2, 18]))))))
                      (.reg lanes_New_r10 (some ([2, 4, 19, 20, 21], [2, 18])))))))))
          (.seq
            (.reg lanes_New_r11 (some ([2, 3], [2, 18])))
            .ret)))))
def lanes_New_k (P : Program) (F : Nat → Nat) : Prop := chkFn P (F 75) 1 (lanes_New_c) [.loadA 3 (.t 2), 3] = true
def lanes_Push_r0 : List AOper := [
  ⟨some 3, .box 3 (.t 0), none⟩,
  ⟨some 6, .alloc 3 [.nil 3, .int .i64 0, .bool false], none⟩,
  ⟨some 7, .val (.mov (.k (.int .i64 0))), none⟩]
def lanes_Push_r1 (F : Nat → Nat) : List AOper := [
  ⟨some 8, .val (.loadA 3 (.t 3)), none⟩,
  ⟨some 9, .call (F 76) [(.t 8)], none⟩,
  ⟨some 10, .val (.not (.t 9)), none⟩,
  ⟨some 11, .val (.mov (.t 10)), none⟩,
  ⟨some 12, .val (.mov (.t 1)), some (11, false)⟩,
  ⟨some 13, .val (.bin .lss false (.t 12) (.k (.int .i64 0))), some (11, false)⟩,
  ⟨some 14, .val (.por (.t 11) (.t 13)), none⟩,
  ⟨some 15, .val (.mov (.t 14)), none⟩,
  ⟨some 16, .val (.mov (.t 1)), some (15, false)⟩,
  ⟨some 17, .val (.field 0 (.t 3)), some (15, false)⟩,
  ⟨some 18, .val (.load1 (.t 17)), some (15, false)⟩,
  ⟨some 19, .val (.lenS (.t 18)), some (15, false)⟩,
  ⟨some 20, .val (.bin .geq false (.t 16) (.t 19)), some (15, false)⟩,
  ⟨some 21, .val (.por (.t 15) (.t 20)), none⟩,
  ⟨some 22, .val (.mov (.t 21)), none⟩,
  ⟨some 23, .val (.mov (.t 2)), some (22, false)⟩,
  ⟨some 24, .val (.bin .lss false (.t 23) (.k (.int .i64 1))), some (22, false)⟩,
  ⟨some 25, .val (.por (.t 22) (.t 24)), none⟩,
  ⟨some 26, .val (.mov (.t 25)), none⟩,
  ⟨some 27, .val (.mov (.t 2)), some (26, false)⟩,
  ⟨some 28, .val (.bin .gtr false (.t 27) (.k (.int .i64 8))), some (26, false)⟩,
  ⟨some 29, .val (.por (.t 26) (.t 28)), none⟩]
def lanes_Push_r2 : List AOper := [
  ⟨some 30, .val (.loadA 3 (.t 3)), none⟩,
  ⟨none, .stA true 3 (.t 6) (.t 30), none⟩,
  ⟨some 7, .val (.mov (.k (.int .i64 1))), none⟩]
def lanes_Push_r3 : List AOper := [
  ⟨some 31, .val (.field 0 (.t 3)), none⟩,
  ⟨some 32, .val (.load1 (.t 31)), none⟩,
  ⟨some 33, .val (.mov (.t 1)), none⟩,
  ⟨some 34, .val (.ixS 3 (.t 32) (.t 33)), none⟩,
  ⟨some 35, .val (.field 2 (.t 34)), none⟩,
  ⟨some 36, .val (.load1 (.t 35)), none⟩,
  ⟨some 37, .val (.lenS (.t 36)), none⟩,
  ⟨some 38, .val (.bin .geq false (.t 37) (.k (.int .i64 200))), none⟩]
def lanes_Push_r4 : List AOper := [
  ⟨some 39, .val (.loadA 3 (.t 3)), none⟩,
  ⟨none, .stA true 3 (.t 6) (.t 39), none⟩,
  ⟨some 7, .val (.mov (.k (.int .i64 7))), none⟩]
def lanes_Push_r5 (F : Nat → Nat) : List AOper := [
  ⟨some 40, .val (.field 0 (.t 3)), none⟩,
  ⟨some 41, .val (.load1 (.t 40)), none⟩,
  ⟨some 42, .call (F 77) [(.t 41)], none⟩,
  ⟨some 43, .val (.field 0 (.t 3)), none⟩,
  ⟨none, .st1 true (.t 43) (.t 42), none⟩]
def lanes_Push_r6 (F : Nat → Nat) : List AOper := [
  ⟨some 44, .val (.field 0 (.t 3)), none⟩,
  ⟨some 45, .val (.load1 (.t 44)), none⟩,
  ⟨some 46, .val (.mov (.t 1)), none⟩,
  ⟨some 47, .val (.field 0 (.t 3)), none⟩,
  ⟨some 48, .val (.load1 (.t 47)), none⟩,
  ⟨some 49, .val (.mov (.t 1)), none⟩,
  ⟨some 50, .val (.ixS 3 (.t 48) (.t 49)), none⟩,
  ⟨some 51, .val (.field 2 (.t 50)), none⟩,
  ⟨some 52, .val (.load1 (.t 51)), none⟩,
  ⟨some 53, .call (F 78) [(.t 52)], none⟩,
  ⟨some 54, .val (.mov (.t 2)), none⟩,
  ⟨some 55, .buildS 1 1 [.int .i64 0] [(0, (.t 54))], none⟩,
  ⟨some 56, .app 1 8 (.t 53) (.t 55), none⟩,
  ⟨some 57, .val (.ixS 3 (.t 45) (.t 46)), none⟩,
  ⟨some 58, .val (.field 2 (.t 57)), none⟩,
  ⟨none, .st1 false (.t 58) (.t 56), none⟩]
def lanes_Push_r7 : List AOper := [
  ⟨some 59, .val (.loadA 3 (.t 3)), none⟩,
  ⟨none, .stA true 3 (.t 6) (.t 59), none⟩,
  ⟨some 7, .val (.mov (.k (.int .i64 0))), none⟩]
def lanes_Push_c (F : Nat → Nat) : ACode :=
  (.seq
    (.reg lanes_Push_r0 (some ([1, 2, 3, 6], [3, 6, 55, 56, 1042, 1053])))
    (.seq
      (.seq
        (.reg (lanes_Push_r1 F) (some ([1, 2, 3, 6, 29], [3, 6, 55, 56, 1042, 1053])))
        (.cond (.t 29)
          (.seq
            (.reg lanes_Push_r2 (some ([6, 7], [6, 55, 56, 1042, 1053])))
            .ret)
          .skip))
      (.seq
        (.seq
          (.reg lanes_Push_r3 (some ([1, 2, 3, 6, 38], [3, 6, 55, 56, 1042, 1053])))
          (.cond (.t 38)
            (.seq
              (.reg lanes_Push_r4 (some ([6, 7], [6, 55, 56, 1042, 1053])))
              .ret)
            .skip))
        (.seq
          (.reg (lanes_Push_r5 F) (some ([1, 2, 3, 6], [3, 6, 55, 56, 1042, 1053])))
          (.seq
            (.regD (lanes_Push_r6 F) [(0, 9), (1, 9), (2, 9), (9, 10), (0, 11), (1, 11), (2, 11), (3, 11), (4, 11), (5, 11), (6, 11), (7, 11), (8, 11), (9, 11), (0, 12), (1, 12), (2, 12)] (some ([3, 6], [3, 6, 55, 56, 1042, 1053])))
            (.seq
              (.reg lanes_Push_r7 (some ([6, 7], [6, 55, 56, 1042, 1053])))
              .ret))))))
def lanes_Push_k (P : Program) (F : Nat → Nat) : Prop := chkFn P (F 79) 3 (lanes_Push_c F) [.loadA 3 (.t 6), 7] = true
def lanes_Right_r0 : List AOper := [
  ⟨some 1, .box 3 (.t 0), none⟩,
  ⟨some 2, .val (.mov (.k (.bool false))), none⟩]
def lanes_Right_r1 : List AOper := [
  ⟨some 8, .val (.field 0 (.t 1)), none⟩,
  ⟨some 9, .val (.load1 (.t 8)), none⟩,
  ⟨some 10, .val (.lenS (.t 9)), none⟩,
  ⟨some 11, .val (.bin .lss false (.t 10) (.k (.int .i64 1))), none⟩,
  ⟨some 12, .val (.mov (.t 11)), none⟩,
  ⟨some 13, .val (.field 0 (.t 1)), some (12, false)⟩,
  ⟨some 14, .val (.load1 (.t 13)), some (12, false)⟩,
  ⟨some 15, .val (.lenS (.t 14)), some (12, false)⟩,
  ⟨some 16, .val (.bin .gtr false (.t 15) (.k (.int .i64 6))), some (12, false)⟩,
  ⟨some 17, .val (.por (.t 12) (.t 16)), none⟩,
  ⟨some 18, .val (.mov (.t 17)), none⟩,
  ⟨some 19, .val (.field 1 (.t 1)), some (18, false)⟩,
  ⟨some 20, .val (.load1 (.t 19)), some (18, false)⟩,
  ⟨some 21, .val (.bin .lss false (.t 20) (.k (.int .i64 0))), some (18, false)⟩,
  ⟨some 22, .val (.por (.t 18) (.t 21)), none⟩,
  ⟨some 23, .val (.mov (.t 22)), none⟩,
  ⟨some 24, .val (.field 1 (.t 1)), some (23, false)⟩,
  ⟨some 25, .val (.load1 (.t 24)), some (23, false)⟩,
  ⟨some 26, .val (.field 0 (.t 1)), some (23, false)⟩,
  ⟨some 27, .val (.load1 (.t 26)), some (23, false)⟩,
  ⟨some 28, .val (.lenS (.t 27)), some (23, false)⟩,
  ⟨some 29, .val (.bin .geq false (.t 25) (.t 28)), some (23, false)⟩,
  ⟨some 30, .val (.por (.t 23) (.t 29)), none⟩]
def lanes_Right_r2 : List AOper := [
  ⟨some 2, .val (.mov (.k (.bool false))), none⟩]
def lanes_Right_r3 : List AOper := [
  ⟨some 31, .val (.field 0 (.t 1)), none⟩,
  ⟨some 32, .val (.load1 (.t 31)), none⟩,
  ⟨some 33, .val (.lenS (.t 32)), none⟩,
  ⟨some 34, .val (.mov (.k (.int .i64 0))), none⟩]
def lanes_Right_r4 : List AOper := [
  ⟨some 35, .val (.bin .lss false (.t 34) (.t 33)), none⟩]
def lanes_Right_r5 : List AOper := [
  ⟨some 36, .val (.mov (.t 34)), none⟩,
  ⟨some 37, .val (.ixS 3 (.t 32) (.t 34)), none⟩,
  ⟨some 38, .val (.loadA 3 (.t 37)), none⟩,
  ⟨some 4, .alloc 3 [.int .i64 0, .int .i64 0, .nil 1], none⟩,
  ⟨some 3, .val (.mov (.t 36)), none⟩,
  ⟨none, .stA true 3 (.t 4) (.t 38), none⟩]
def lanes_Right_r6 : List AOper := [
  ⟨some 5, .val (.mov (.k (.int .i64 7))), none⟩]
def lanes_Right_r7 : List AOper := [
  ⟨some 39, .val (.mov (.t 3)), none⟩,
  ⟨some 40, .val (.field 1 (.t 1)), none⟩,
  ⟨some 41, .val (.load1 (.t 40)), none⟩,
  ⟨some 42, .val (.bin .eql false (.t 39) (.t 41)), none⟩,
  ⟨some 43, .val (.mov (.t 42)), none⟩,
  ⟨some 44, .val (.field 2 (.t 1)), some (43, true)⟩,
  ⟨some 45, .val (.load1 (.t 44)), some (43, true)⟩,
  ⟨some 46, .val (.pand (.t 43) (.t 45)), none⟩]
def lanes_Right_r8 : List AOper := [
  ⟨some 5, .val (.mov (.k (.int .i64 39))), none⟩]
def lanes_Right_r9 : List AOper := [
  ⟨some 47, .val (.field 0 (.t 4)), none⟩,
  ⟨some 48, .val (.load1 (.t 47)), none⟩,
  ⟨some 49, .val (.bin .lss false (.t 48) (.k (.int .i64 1))), none⟩,
  ⟨some 50, .val (.mov (.t 49)), none⟩,
  ⟨some 51, .val (.field 0 (.t 4)), some (50, false)⟩,
  ⟨some 52, .val (.load1 (.t 51)), some (50, false)⟩,
  ⟨some 53, .val (.bin .gtr false (.t 52) (.k (.int .i64 8))), some (50, false)⟩,
  ⟨some 54, .val (.por (.t 50) (.t 53)), none⟩,
  ⟨some 55, .val (.mov (.t 54)), none⟩,
  ⟨some 56, .val (.field 1 (.t 4)), some (55, false)⟩,
  ⟨some 57, .val (.load1 (.t 56)), some (55, false)⟩,
  ⟨some 58, .val (.bin .lss false (.t 57) (.k (.int .i64 0))), some (55, false)⟩,
  ⟨some 59, .val (.por (.t 55) (.t 58)), none⟩,
  ⟨some 60, .val (.mov (.t 59)), none⟩,
  ⟨some 61, .val (.field 1 (.t 4)), some (60, false)⟩,
  ⟨some 62, .val (.load1 (.t 61)), some (60, false)⟩,
  ⟨some 63, .val (.mov (.t 5)), some (60, false)⟩,
  ⟨some 64, .val (.bin .gtr false (.t 62) (.t 63)), some (60, false)⟩,
  ⟨some 65, .val (.por (.t 60) (.t 64)), none⟩]
def lanes_Right_r10 : List AOper := [
  ⟨some 2, .val (.mov (.k (.bool false))), none⟩]
def lanes_Right_r11 : List AOper := [
  ⟨some 66, .val (.field 2 (.t 4)), none⟩,
  ⟨some 67, .val (.load1 (.t 66)), none⟩,
  ⟨some 68, .val (.lenS (.t 67)), none⟩,
  ⟨some 69, .val (.bin .gtr false (.t 68) (.k (.int .i64 200))), none⟩]
def lanes_Right_r12 : List AOper := [
  ⟨some 2, .val (.mov (.k (.bool false))), none⟩]
def lanes_Right_r13 : List AOper := [
  ⟨some 70, .val (.field 2 (.t 4)), none⟩,
  ⟨some 71, .val (.load1 (.t 70)), none⟩,
  ⟨some 72, .val (.lenS (.t 71)), none⟩,
  ⟨some 73, .val (.mov (.k (.int .i64 0))), none⟩]
def lanes_Right_r14 : List AOper := [
  ⟨some 74, .val (.bin .lss false (.t 73) (.t 72)), none⟩]
def lanes_Right_r15 : List AOper := [
  ⟨some 75, .val (.ixS 1 (.t 71) (.t 73)), none⟩,
  ⟨some 76, .val (.load1 (.t 75)), none⟩,
  ⟨some 7, .val (.mov (.t 76)), none⟩]
def lanes_Right_r16 : List AOper := [
  ⟨some 77, .val (.mov (.t 7)), none⟩,
  ⟨some 78, .val (.bin .lss false (.t 77) (.k (.int .i64 1))), none⟩,
  ⟨some 79, .val (.mov (.t 78)), none⟩,
  ⟨some 80, .val (.mov (.t 7)), some (79, false)⟩,
  ⟨some 81, .val (.bin .gtr false (.t 80) (.k (.int .i64 8))), some (79, false)⟩,
  ⟨some 82, .val (.por (.t 79) (.t 81)), none⟩]
def lanes_Right_r17 : List AOper := [
  ⟨some 2, .val (.mov (.k (.bool false))), none⟩]
def lanes_Right_r18 : List AOper := [
  ⟨some 83, .val (.bin .add true (.t 73) (.k (.int .i64 1))), none⟩,
  ⟨some 73, .val (.mov (.t 83)), none⟩]
def lanes_Right_r19 : List AOper := [
  ⟨some 84, .val (.bin .add true (.t 34) (.k (.int .i64 1))), none⟩,
  ⟨some 34, .val (.mov (.t 84)), none⟩]
def lanes_Right_r20 : List AOper := [
  ⟨some 2, .val (.mov (.k (.bool true))), none⟩]
def lanes_Right_c : ACode :=
  (.seq
    (.reg lanes_Right_r0 (some ([1], [1])))
    (.seq
      (.seq
        (.reg lanes_Right_r1 (some ([1, 30], [1])))
        (.cond (.t 30)
          (.seq
            (.reg lanes_Right_r2 (some ([2], [])))
            .ret)
          .skip))
      (.seq
        (.seq
          (.reg lanes_Right_r3 (some ([1, 32, 33, 34], [1])))
          (.block 0
            (.loop
              (.seq
                (.reg lanes_Right_r4 (some ([1, 32, 33, 34, 35], [1])))
                (.seq
                  (.cond (.t 35)
                    .skip
                    (.exit 0))
                  (.seq
                    (.block 1
                      (.seq
                        (.reg lanes_Right_r5 (some ([1, 3, 4, 32, 33, 34], [1, 4])))
                        (.seq
                          (.reg lanes_Right_r6 (some ([1, 3, 4, 5, 32, 33, 34], [1, 4])))
                          (.seq
                            (.seq
                              (.reg lanes_Right_r7 (some ([1, 4, 5, 32, 33, 34, 46], [1, 4])))
                              (.cond (.t 46)
                                (.reg lanes_Right_r8 (some ([1, 4, 5, 32, 33, 34], [1, 4])))
                                .skip))
                            (.seq
                              (.seq
                                (.reg lanes_Right_r9 (some ([1, 4, 32, 33, 34, 65], [1, 4])))
                                (.cond (.t 65)
                                  (.seq
                                    (.reg lanes_Right_r10 (some ([2], [])))
                                    .ret)
                                  .skip))
                              (.seq
                                (.seq
                                  (.reg lanes_Right_r11 (some ([1, 4, 32, 33, 34, 69], [1, 4])))
                                  (.cond (.t 69)
                                    (.seq
                                      (.reg lanes_Right_r12 (some ([2], [])))
                                      .ret)
                                    .skip))
                                (.seq
                                  (.reg lanes_Right_r13 (some ([1, 32, 33, 34, 71, 72, 73], [1])))
                                  (.block 2
                                    (.loop
                                      (.seq
                                        (.reg lanes_Right_r14 (some ([1, 32, 33, 34, 71, 72, 73, 74], [1])))
                                        (.seq
                                          (.cond (.t 74)
                                            .skip
                                            (.exit 2))
                                          (.seq
                                            (.block 3
                                              (.seq
                                                (.reg lanes_Right_r15 (some ([1, 7, 32, 33, 34, 71, 72, 73], [1])))
                                                (.seq
                                                  (.reg lanes_Right_r16 (some ([1, 32, 33, 34, 71, 72, 73, 82], [1])))
                                                  (.cond (.t 82)
                                                    (.seq
                                                      (.reg lanes_Right_r17 (some ([2], [])))
                                                      .ret)
                                                    .skip))))
                                            (.reg lanes_Right_r18 (some ([1, 32, 33, 34, 71, 72, 73], [1])))))))))))))))
                    (.reg lanes_Right_r19 (some ([1, 32, 33, 34], [1])))))))))
        (.seq
          (.reg lanes_Right_r20 (some ([2], [])))
          .ret))))
def lanes_Right_k (P : Program) (F : Nat → Nat) : Prop := chkFn P (F 76) 1 (lanes_Right_c) [2] = true
def law05_filled_r0 : List AOper := [
  ⟨some 4, .alloc 3 [.nil 3, .int .i64 0, .bool false], none⟩,
  ⟨some 5, .val (.mov (.k (.nil 1))), none⟩,
  ⟨some 6, .val (.mov (.k (.bool false))), none⟩]
def law05_filled_r1 : List AOper := [
  ⟨some 7, .val (.mov (.k (.nil 1))), none⟩]
def law05_filled_r2 : List AOper := [
  ⟨some 8, .val (.mov (.k (.int .i64 0))), none⟩]
def law05_filled_r3 : List AOper := [
  ⟨some 16, .val (.mov (.t 8)), none⟩,
  ⟨some 17, .val (.mov (.t 0)), none⟩,
  ⟨some 18, .val (.lenS (.t 17)), none⟩,
  ⟨some 19, .val (.bin .lss false (.t 16) (.t 18)), none⟩,
  ⟨some 20, .val (.mov (.t 19)), none⟩,
  ⟨some 21, .val (.mov (.t 8)), some (20, true)⟩,
  ⟨some 22, .val (.bin .lss false (.t 21) (.k (.int .i64 6))), some (20, true)⟩,
  ⟨some 23, .val (.pand (.t 20) (.t 22)), none⟩]
def law05_filled_r5 : List AOper := [
  ⟨some 26, .val (.mov (.t 7)), none⟩,
  ⟨some 27, .val (.mov (.t 0)), none⟩,
  ⟨some 28, .val (.mov (.t 8)), none⟩,
  ⟨some 29, .val (.ixS 1 (.t 27) (.t 28)), none⟩,
  ⟨some 30, .val (.load1 (.t 29)), none⟩,
  ⟨some 31, .val (.bin .rem true (.t 30) (.k (.int .u8 8))), none⟩,
  ⟨some 32, .val (.conv true .i64 (.t 31)), none⟩,
  ⟨some 33, .val (.bin .add true (.k (.int .i64 1)) (.t 32)), none⟩,
  ⟨some 34, .buildS 1 1 [.int .i64 0] [(0, (.t 33))], none⟩,
  ⟨some 35, .app 1 8 (.t 26) (.t 34), none⟩,
  ⟨some 7, .val (.mov (.t 35)), none⟩]
def law05_filled_r4 : List AOper := [
  ⟨some 24, .val (.mov (.t 8)), none⟩,
  ⟨some 25, .val (.bin .add true (.t 24) (.k (.int .i64 1))), none⟩,
  ⟨some 8, .val (.mov (.t 25)), none⟩]
def law05_filled_r6 : List AOper := [
  ⟨some 36, .val (.mov (.t 7)), none⟩,
  ⟨some 37, .val (.lenS (.t 36)), none⟩,
  ⟨some 38, .val (.bin .eql false (.t 37) (.k (.int .i64 0))), none⟩]
def law05_filled_r7 : List AOper := [
  ⟨some 39, .buildS 1 1 [.int .i64 0] [(0, (.k (.int .i64 1)))], none⟩,
  ⟨some 7, .val (.mov (.t 39)), none⟩]
def law05_filled_r8 (F : Nat → Nat) : List AOper := [
  ⟨some 41, .val (.mov (.t 7)), none⟩,
  ⟨some 42, .call (F 75) [(.t 41)], none⟩,
  ⟨some 40, .val (.mov (.t 42)), none⟩,
  ⟨some 43, .val (.extr 0 (.t 40)), none⟩,
  ⟨some 44, .val (.extr 1 (.t 40)), none⟩,
  ⟨some 9, .alloc 3 [.nil 3, .int .i64 0, .bool false], none⟩,
  ⟨none, .stA true 3 (.t 9) (.t 43), none⟩,
  ⟨some 10, .val (.mov (.t 44)), none⟩]
def law05_filled_r9 : List AOper := [
  ⟨some 45, .val (.mov (.t 7)), none⟩,
  ⟨some 46, .val (.lenS (.t 45)), none⟩,
  ⟨some 47, .val (.mov (.k (.int .i64 0))), none⟩]
def law05_filled_r10 : List AOper := [
  ⟨some 48, .val (.bin .lss false (.t 47) (.t 46)), none⟩]
def law05_filled_r11 : List AOper := [
  ⟨some 49, .val (.mov (.t 47)), none⟩,
  ⟨some 11, .val (.mov (.t 49)), none⟩]
def law05_filled_r12 : List AOper := [
  ⟨some 50, .val (.mov (.k (.int .i64 0))), none⟩]
def law05_filled_r13 : List AOper := [
  ⟨some 51, .val (.bin .lss false (.t 50) (.k (.int .i64 150))), none⟩]
def law05_filled_r14 : List AOper := [
  ⟨some 52, .val (.mov (.t 50)), none⟩,
  ⟨some 12, .val (.mov (.t 52)), none⟩]
def law05_filled_r15 : List AOper := [
  ⟨some 53, .val (.mov (.t 11)), none⟩,
  ⟨some 54, .val (.mov (.t 12)), none⟩,
  ⟨some 55, .val (.bin .add true (.t 53) (.t 54)), none⟩,
  ⟨some 56, .val (.bin .rem true (.t 55) (.k (.int .i64 8))), none⟩,
  ⟨some 57, .val (.bin .add true (.k (.int .i64 1)) (.t 56)), none⟩,
  ⟨some 13, .val (.mov (.t 57)), none⟩]
def law05_filled_r16 : List AOper := [
  ⟨some 58, .val (.mov (.t 11)), none⟩,
  ⟨some 59, .val (.mov (.t 1)), none⟩,
  ⟨some 60, .val (.lenS (.t 59)), none⟩,
  ⟨some 61, .val (.bin .lss false (.t 58) (.t 60)), none⟩,
  ⟨some 62, .val (.mov (.t 61)), none⟩,
  ⟨some 63, .val (.mov (.t 1)), some (62, true)⟩,
  ⟨some 64, .val (.mov (.t 11)), some (62, true)⟩,
  ⟨some 65, .val (.ixS 1 (.t 63) (.t 64)), some (62, true)⟩,
  ⟨some 66, .val (.load1 (.t 65)), some (62, true)⟩,
  ⟨some 67, .val (.lenS (.t 66)), some (62, true)⟩,
  ⟨some 68, .val (.bin .gtr false (.t 67) (.k (.int .i64 0))), some (62, true)⟩,
  ⟨some 69, .val (.pand (.t 62) (.t 68)), none⟩]
def law05_filled_r17 : List AOper := [
  ⟨some 70, .val (.mov (.t 1)), none⟩,
  ⟨some 71, .val (.mov (.t 11)), none⟩,
  ⟨some 72, .val (.ixS 1 (.t 70) (.t 71)), none⟩,
  ⟨some 73, .val (.load1 (.t 72)), none⟩,
  ⟨some 74, .val (.mov (.t 12)), none⟩,
  ⟨some 75, .val (.mov (.t 1)), none⟩,
  ⟨some 76, .val (.mov (.t 11)), none⟩,
  ⟨some 77, .val (.ixS 1 (.t 75) (.t 76)), none⟩,
  ⟨some 78, .val (.load1 (.t 77)), none⟩,
  ⟨some 79, .val (.lenS (.t 78)), none⟩,
  ⟨some 80, .val (.bin .rem true (.t 74) (.t 79)), none⟩,
  ⟨some 81, .val (.ixS 1 (.t 73) (.t 80)), none⟩,
  ⟨some 82, .val (.load1 (.t 81)), none⟩,
  ⟨some 83, .val (.bin .rem true (.t 82) (.k (.int .u8 8))), none⟩,
  ⟨some 84, .val (.conv true .i64 (.t 83)), none⟩,
  ⟨some 85, .val (.bin .add true (.k (.int .i64 1)) (.t 84)), none⟩,
  ⟨some 13, .val (.mov (.t 85)), none⟩]
def law05_filled_r18 (F : Nat → Nat) : List AOper := [
  ⟨some 87, .val (.loadA 3 (.t 9)), none⟩,
  ⟨some 88, .val (.mov (.t 11)), none⟩,
  ⟨some 89, .val (.mov (.t 13)), none⟩,
  ⟨some 90, .call (F 79) [(.t 87), (.t 88), (.t 89)], none⟩,
  ⟨some 86, .val (.mov (.t 90)), none⟩,
  ⟨some 91, .val (.extr 0 (.t 86)), none⟩,
  ⟨some 92, .val (.extr 1 (.t 86)), none⟩,
  ⟨some 14, .alloc 3 [.nil 3, .int .i64 0, .bool false], none⟩,
  ⟨none, .stA true 3 (.t 14) (.t 91), none⟩,
  ⟨some 15, .val (.mov (.t 92)), none⟩]
def law05_filled_r19 : List AOper := [
  ⟨some 93, .val (.mov (.t 15)), none⟩,
  ⟨some 94, .val (.bin .neq false (.t 93) (.k (.int .i64 0))), none⟩]
def law05_filled_r20 : List AOper := [
  ⟨some 95, .val (.loadA 3 (.t 9)), none⟩,
  ⟨some 96, .val (.mov (.t 7)), none⟩,
  ⟨none, .stA true 3 (.t 4) (.t 95), none⟩,
  ⟨some 5, .val (.mov (.t 96)), none⟩,
  ⟨some 6, .val (.mov (.k (.bool false))), none⟩]
def law05_filled_r21 : List AOper := [
  ⟨some 97, .val (.loadA 3 (.t 14)), none⟩,
  ⟨none, .stA true 3 (.t 9) (.t 97), none⟩]
def law05_filled_r22 : List AOper := [
  ⟨some 98, .val (.bin .add true (.t 50) (.k (.int .i64 1))), none⟩,
  ⟨some 50, .val (.mov (.t 98)), none⟩]
def law05_filled_r23 : List AOper := [
  ⟨some 99, .val (.bin .add true (.t 47) (.k (.int .i64 1))), none⟩,
  ⟨some 47, .val (.mov (.t 99)), none⟩]
def law05_filled_r24 : List AOper := [
  ⟨some 100, .val (.loadA 3 (.t 9)), none⟩,
  ⟨some 101, .val (.mov (.t 7)), none⟩,
  ⟨some 102, .val (.mov (.t 10)), none⟩,
  ⟨some 103, .val (.bin .eql false (.t 102) (.k (.int .i64 0))), none⟩,
  ⟨none, .stA true 3 (.t 4) (.t 100), none⟩,
  ⟨some 5, .val (.mov (.t 101)), none⟩,
  ⟨some 6, .val (.mov (.t 103)), none⟩]
def law05_filled_c (F : Nat → Nat) : ACode :=
  (.seq
    (.reg law05_filled_r0 (some ([0, 1, 4], [4, 34, 35, 39])))
    (.seq
      (.reg law05_filled_r1 (some ([0, 1, 4, 7], [4, 34, 35, 39])))
      (.seq
        (.seq
          (.reg law05_filled_r2 (some ([0, 1, 4, 7, 8], [4, 34, 35, 39])))
          (.block 0
            (.loop
              (.seq
                (.seq
                  (.reg law05_filled_r3 (some ([0, 1, 4, 7, 8, 23], [4, 34, 35, 39])))
                  (.cond (.t 23)
                    .skip
                    (.exit 0)))
                (.seq
                  (.block 1
                    (.reg law05_filled_r5 (some ([0, 1, 4, 7, 8], [4, 34, 35, 39]))))
                  (.reg law05_filled_r4 (some ([0, 1, 4, 7, 8], [4, 34, 35, 39]))))))))
        (.seq
          (.seq
            (.reg law05_filled_r6 (some ([1, 4, 7, 38], [4, 34, 35, 39])))
            (.cond (.t 38)
              (.reg law05_filled_r7 (some ([1, 4, 7], [4, 34, 35, 39])))
              .skip))
          (.seq
            (.reg (law05_filled_r8 F) (some ([1, 4, 7, 9, 10], [4, 9, 34, 35, 39])))
            (.seq
              (.seq
                (.reg law05_filled_r9 (some ([1, 4, 7, 9, 10, 46, 47], [4, 9, 34, 35, 39])))
                (.block 2
                  (.loop
                    (.seq
                      (.reg law05_filled_r10 (some ([1, 4, 7, 9, 10, 46, 47, 48], [4, 9, 34, 35, 39])))
                      (.seq
                        (.cond (.t 48)
                          .skip
                          (.exit 2))
                        (.seq
                          (.block 3
                            (.seq
                              (.reg law05_filled_r11 (some ([1, 4, 7, 9, 10, 11, 46, 47], [4, 9, 34, 35, 39])))
                              (.seq
                                (.reg law05_filled_r12 (some ([1, 4, 7, 9, 10, 11, 46, 47, 50], [4, 9, 34, 35, 39])))
                                (.block 4
                                  (.loop
                                    (.seq
                                      (.reg law05_filled_r13 (some ([1, 4, 7, 9, 10, 11, 46, 47, 50, 51], [4, 9, 34, 35, 39])))
                                      (.seq
                                        (.cond (.t 51)
                                          .skip
                                          (.exit 4))
                                        (.seq
                                          (.block 5
                                            (.seq
                                              (.reg law05_filled_r14 (some ([1, 4, 7, 9, 10, 11, 12, 46, 47, 50], [4, 9, 34, 35, 39])))
                                              (.seq
                                                (.reg law05_filled_r15 (some ([1, 4, 7, 9, 10, 11, 12, 13, 46, 47, 50], [4, 9, 34, 35, 39])))
                                                (.seq
                                                  (.seq
                                                    (.reg law05_filled_r16 (some ([1, 4, 7, 9, 10, 11, 12, 13, 46, 47, 50, 69], [4, 9, 34, 35, 39])))
                                                    (.cond (.t 69)
                                                      (.regD law05_filled_r17 [] (some ([1, 4, 7, 9, 10, 11, 13, 46, 47, 50], [4, 9, 34, 35, 39])))
                                                      .skip))
                                                  (.seq
                                                    (.reg (law05_filled_r18 F) (some ([1, 4, 7, 9, 10, 11, 14, 15, 46, 47, 50], [4, 9, 14, 34, 35, 39])))
                                                    (.seq
                                                      (.seq
                                                        (.reg law05_filled_r19 (some ([1, 4, 7, 9, 10, 11, 14, 46, 47, 50, 94], [4, 9, 14, 34, 35, 39])))
                                                        (.cond (.t 94)
                                                          (.seq
                                                            (.reg law05_filled_r20 (some ([4, 5, 6], [4, 34, 35, 39])))
                                                            .ret)
                                                          .skip))
                                                      (.reg law05_filled_r21 (some ([1, 4, 7, 9, 10, 11, 46, 47, 50], [4, 9, 34, 35, 39])))))))))
                                          (.reg law05_filled_r22 (some ([1, 4, 7, 9, 10, 11, 46, 47, 50], [4, 9, 34, 35, 39])))))))))))
                          (.reg law05_filled_r23 (some ([1, 4, 7, 9, 10, 46, 47], [4, 9, 34, 35, 39])))))))))
              (.seq
                (.reg law05_filled_r24 (some ([4, 5, 6], [4, 34, 35, 39])))
                .ret)))))))
def law05_filled_k (P : Program) (F : Nat → Nat) : Prop := chkFn P (F 85) 2 (law05_filled_c F) [.loadA 3 (.t 4), 5, 6] = true
def lanes_Next_r0 : List AOper := [
  ⟨some 1, .box 3 (.t 0), none⟩,
  ⟨some 2, .alloc 3 [.nil 3, .int .i64 0, .bool false], none⟩,
  ⟨some 3, .val (.mov (.k (.int .i64 0))), none⟩,
  ⟨some 4, .val (.mov (.k (.int .i64 0))), none⟩,
  ⟨some 5, .val (.mov (.k (.bool false))), none⟩]
def lanes_Next_r1 (F : Nat → Nat) : List AOper := [
  ⟨some 8, .val (.loadA 3 (.t 1)), none⟩,
  ⟨some 9, .call (F 76) [(.t 8)], none⟩,
  ⟨some 10, .val (.not (.t 9)), none⟩,
  ⟨some 11, .val (.mov (.t 10)), none⟩,
  ⟨some 12, .val (.loadA 3 (.t 1)), some (11, false)⟩,
  ⟨some 13, .call (F 93) [(.t 12)], some (11, false)⟩,
  ⟨some 14, .val (.not (.t 13)), some (11, false)⟩,
  ⟨some 15, .val (.por (.t 11) (.t 14)), none⟩]
def lanes_Next_r2 : List AOper := [
  ⟨some 16, .val (.loadA 3 (.t 1)), none⟩,
  ⟨none, .stA true 3 (.t 2) (.t 16), none⟩,
  ⟨some 3, .val (.mov (.k (.int .i64 0))), none⟩,
  ⟨some 4, .val (.mov (.k (.int .i64 0))), none⟩,
  ⟨some 5, .val (.mov (.k (.bool false))), none⟩]
def lanes_Next_r3 (F : Nat → Nat) : List AOper := [
  ⟨some 17, .val (.field 0 (.t 1)), none⟩,
  ⟨some 18, .val (.load1 (.t 17)), none⟩,
  ⟨some 19, .call (F 77) [(.t 18)], none⟩,
  ⟨some 20, .val (.field 0 (.t 1)), none⟩,
  ⟨none, .st1 true (.t 20) (.t 19), none⟩]
def lanes_Next_r4 : List AOper := [
  ⟨some 6, .val (.mov (.k (.int .i64 0))), none⟩]
def lanes_Next_r6 : List AOper := [
  ⟨some 30, .val (.field 0 (.t 1)), none⟩,
  ⟨some 31, .val (.load1 (.t 30)), none⟩,
  ⟨some 32, .val (.field 1 (.t 1)), none⟩,
  ⟨some 33, .val (.load1 (.t 32)), none⟩,
  ⟨some 34, .val (.ixS 3 (.t 31) (.t 33)), none⟩,
  ⟨some 7, .val (.mov (.t 34)), none⟩]
def lanes_Next_r7 : List AOper := [
  ⟨some 35, .val (.mov (.t 7)), none⟩,
  ⟨some 36, .val (.nilc (.t 35)), none⟩,
  ⟨some 37, .val (.field 2 (.t 36)), none⟩,
  ⟨some 38, .val (.load1 (.t 37)), none⟩,
  ⟨some 39, .val (.lenS (.t 38)), none⟩,
  ⟨some 40, .val (.bin .eql false (.t 39) (.k (.int .i64 0))), none⟩]
def lanes_Next_r8 : List AOper := [
  ⟨some 41, .val (.mov (.t 7)), none⟩,
  ⟨some 42, .val (.nilc (.t 41)), none⟩,
  ⟨some 43, .val (.field 1 (.t 42)), none⟩,
  ⟨none, .st1 false (.t 43) (.k (.int .i64 0)), none⟩]
def lanes_Next_r9 : List AOper := [
  ⟨some 44, .val (.field 2 (.t 1)), none⟩,
  ⟨some 45, .val (.load1 (.t 44)), none⟩,
  ⟨some 46, .val (.not (.t 45)), none⟩]
def lanes_Next_r10 : List AOper := [
  ⟨some 47, .val (.mov (.t 7)), none⟩,
  ⟨some 48, .val (.nilc (.t 47)), none⟩,
  ⟨some 49, .val (.field 1 (.t 48)), none⟩,
  ⟨some 50, .val (.load1 (.t 49)), none⟩,
  ⟨some 51, .val (.mov (.t 7)), none⟩,
  ⟨some 52, .val (.nilc (.t 51)), none⟩,
  ⟨some 53, .val (.field 0 (.t 52)), none⟩,
  ⟨some 54, .val (.load1 (.t 53)), none⟩,
  ⟨some 55, .val (.bin .mul true (.t 54) (.k (.int .i64 4))), none⟩,
  ⟨some 56, .val (.bin .add true (.t 50) (.t 55)), none⟩,
  ⟨some 57, .val (.nilc (.t 47)), none⟩,
  ⟨some 58, .val (.field 1 (.t 57)), none⟩,
  ⟨none, .st1 false (.t 58) (.t 56), none⟩]
def lanes_Next_r11 : List AOper := [
  ⟨some 59, .val (.field 2 (.t 1)), none⟩,
  ⟨none, .st1 true (.t 59) (.k (.bool true)), none⟩]
def lanes_Next_r12 : List AOper := [
  ⟨some 60, .val (.mov (.t 7)), none⟩,
  ⟨some 61, .val (.nilc (.t 60)), none⟩,
  ⟨some 62, .val (.field 2 (.t 61)), none⟩,
  ⟨some 63, .val (.load1 (.t 62)), none⟩,
  ⟨some 64, .val (.ixS 1 (.t 63) (.k (.int .i64 0))), none⟩,
  ⟨some 65, .val (.load1 (.t 64)), none⟩,
  ⟨some 66, .val (.mov (.t 7)), none⟩,
  ⟨some 67, .val (.nilc (.t 66)), none⟩,
  ⟨some 68, .val (.field 1 (.t 67)), none⟩,
  ⟨some 69, .val (.load1 (.t 68)), none⟩,
  ⟨some 70, .val (.bin .gtr false (.t 65) (.t 69)), none⟩]
def lanes_Next_r13 : List AOper := [
  ⟨some 71, .val (.mov (.t 7)), none⟩,
  ⟨some 72, .val (.nilc (.t 71)), none⟩,
  ⟨some 73, .val (.field 2 (.t 72)), none⟩,
  ⟨some 74, .val (.load1 (.t 73)), none⟩,
  ⟨some 75, .val (.ixS 1 (.t 74) (.k (.int .i64 0))), none⟩,
  ⟨some 76, .val (.load1 (.t 75)), none⟩,
  ⟨some 6, .val (.mov (.t 76)), none⟩]
def lanes_Next_r14 (F : Nat → Nat) : List AOper := [
  ⟨some 77, .val (.mov (.t 7)), none⟩,
  ⟨some 78, .val (.mov (.t 7)), none⟩,
  ⟨some 79, .val (.nilc (.t 78)), none⟩,
  ⟨some 80, .val (.field 2 (.t 79)), none⟩,
  ⟨some 81, .val (.load1 (.t 80)), none⟩,
  ⟨some 82, .val (.slS 1 (.t 81) (some (.k (.int .i64 1))) none), none⟩,
  ⟨some 83, .call (F 78) [(.t 82)], none⟩,
  ⟨some 84, .val (.nilc (.t 77)), none⟩,
  ⟨some 85, .val (.field 2 (.t 84)), none⟩,
  ⟨none, .st1 false (.t 85) (.t 83), none⟩]
def lanes_Next_r15 : List AOper := [
  ⟨some 86, .val (.mov (.t 7)), none⟩,
  ⟨some 87, .val (.nilc (.t 86)), none⟩,
  ⟨some 88, .val (.field 1 (.t 87)), none⟩,
  ⟨some 89, .val (.load1 (.t 88)), none⟩,
  ⟨some 90, .val (.mov (.t 6)), none⟩,
  ⟨some 91, .val (.bin .sub true (.t 89) (.t 90)), none⟩,
  ⟨some 92, .val (.nilc (.t 86)), none⟩,
  ⟨some 93, .val (.field 1 (.t 92)), none⟩,
  ⟨none, .st1 false (.t 93) (.t 91), none⟩]
def lanes_Next_r16 : List AOper := [
  ⟨some 94, .val (.mov (.t 7)), none⟩,
  ⟨some 95, .val (.nilc (.t 94)), none⟩,
  ⟨some 96, .val (.field 2 (.t 95)), none⟩,
  ⟨some 97, .val (.load1 (.t 96)), none⟩,
  ⟨some 98, .val (.lenS (.t 97)), none⟩,
  ⟨some 99, .val (.bin .eql false (.t 98) (.k (.int .i64 0))), none⟩]
def lanes_Next_r17 : List AOper := [
  ⟨some 100, .val (.mov (.t 7)), none⟩,
  ⟨some 101, .val (.nilc (.t 100)), none⟩,
  ⟨some 102, .val (.field 1 (.t 101)), none⟩,
  ⟨none, .st1 false (.t 102) (.k (.int .i64 0)), none⟩]
def lanes_Next_r5 : List AOper := [
  ⟨some 21, .val (.field 1 (.t 1)), none⟩,
  ⟨some 22, .val (.load1 (.t 21)), none⟩,
  ⟨some 23, .val (.bin .add true (.t 22) (.k (.int .i64 1))), none⟩,
  ⟨some 24, .val (.field 0 (.t 1)), none⟩,
  ⟨some 25, .val (.load1 (.t 24)), none⟩,
  ⟨some 26, .val (.lenS (.t 25)), none⟩,
  ⟨some 27, .val (.bin .rem true (.t 23) (.t 26)), none⟩,
  ⟨some 28, .val (.field 1 (.t 1)), none⟩,
  ⟨none, .st1 true (.t 28) (.t 27), none⟩,
  ⟨some 29, .val (.field 2 (.t 1)), none⟩,
  ⟨none, .st1 true (.t 29) (.k (.bool false)), none⟩]
def lanes_Next_r18 : List AOper := [
  ⟨some 103, .val (.loadA 3 (.t 1)), none⟩,
  ⟨some 104, .val (.field 1 (.t 1)), none⟩,
  ⟨some 105, .val (.load1 (.t 104)), none⟩,
  ⟨some 106, .val (.mov (.t 6)), none⟩,
  ⟨none, .stA true 3 (.t 2) (.t 103), none⟩,
  ⟨some 3, .val (.mov (.t 105)), none⟩,
  ⟨some 4, .val (.mov (.t 106)), none⟩,
  ⟨some 5, .val (.mov (.k (.bool true))), none⟩]
def lanes_Next_c (F : Nat → Nat) : ACode :=
  (.seq
    (.reg lanes_Next_r0 (some ([1, 2], [1, 2, 1019, 1083])))
    (.scope
      (.seq
        (.seq
          (.reg (lanes_Next_r1 F) (some ([1, 2, 15], [1, 2, 1019, 1083])))
          (.cond (.t 15)
            (.seq
              (.reg lanes_Next_r2 (some ([2, 3, 4, 5], [2, 1019, 1083])))
              .ret)
            .skip))
        (.seq
          (.reg (lanes_Next_r3 F) (some ([1, 2], [1, 2, 1019, 1083])))
          (.seq
            (.reg lanes_Next_r4 (some ([1, 2], [1, 2, 1019, 1083])))
            (.seq
              .skip
              (.seq
                (.block 0
                  (.loop
                    (.seq
                      (.block 1
                        (.seq
                          (.reg lanes_Next_r6 (some ([1, 2, 7], [1, 2, 1019, 1083])))
                          (.seq
                            (.seq
                              (.reg lanes_Next_r7 (some ([1, 2, 7, 40], [1, 2, 1019, 1083])))
                              (.cond (.t 40)
                                (.seq
                                  (.reg lanes_Next_r8 (some ([1, 2], [1, 2, 1019, 1083])))
                                  (.exit 1))
                                .skip))
                            (.seq
                              (.seq
                                (.reg lanes_Next_r9 (some ([1, 2, 7, 46], [1, 2, 1019, 1083])))
                                (.cond (.t 46)
                                  (.seq
                                    (.regD lanes_Next_r10 [] (some ([1, 2, 7], [1, 2, 1019, 1083])))
                                    (.reg lanes_Next_r11 (some ([1, 2, 7], [1, 2, 1019, 1083]))))
                                  .skip))
                              (.seq
                                (.seq
                                  (.regD lanes_Next_r12 [] (some ([1, 2, 7, 70], [1, 2, 1019, 1083])))
                                  (.cond (.t 70)
                                    (.exit 1)
                                    .skip))
                                (.seq
                                  (.reg lanes_Next_r13 (some ([1, 2, 6, 7], [1, 2, 1019, 1083])))
                                  (.seq
                                    (.reg (lanes_Next_r14 F) (some ([1, 2, 6, 7], [1, 2, 1019, 1083])))
                                    (.seq
                                      (.reg lanes_Next_r15 (some ([1, 2, 6, 7], [1, 2, 1019, 1083])))
                                      (.seq
                                        (.seq
                                          (.reg lanes_Next_r16 (some ([1, 2, 6, 7, 99], [1, 2, 1019, 1083])))
                                          (.cond (.t 99)
                                            (.reg lanes_Next_r17 (some ([1, 2, 6], [1, 2, 1019, 1083])))
                                            .skip))
                                        (.exit 0))))))))))
                      (.reg lanes_Next_r5 (some ([1, 2], [1, 2, 1019, 1083]))))))
                (.seq
                  (.regD lanes_Next_r18 [(1, 4), (2, 4), (3, 4)] (some ([2, 3, 4, 5], [2, 1019, 1083])))
                  .ret))))))))
def lanes_Next_k (P : Program) (F : Nat → Nat) : Prop := chkFn P (F 86) 1 (lanes_Next_c F) [.loadA 3 (.t 2), 3, 4, 5] = true
def sl_Clone_lanes_Lane_r0 : List AOper := [
  ⟨some 2, .val (.mov (.k (.nil 3))), none⟩]
def sl_Clone_lanes_Lane_r1 : List AOper := [
  ⟨some 3, .val (.mov (.t 0)), none⟩,
  ⟨some 4, .val (.nilS (.t 3)), none⟩]
def sl_Clone_lanes_Lane_r2 : List AOper := [
  ⟨some 2, .val (.mov (.k (.nil 3))), none⟩]
def sl_Clone_lanes_Lane_r3 : List AOper := [
  ⟨some 5, .buildS 3 0 [.int .i64 0, .int .i64 0, .nil 1] [], none⟩,
  ⟨some 6, .val (.mov (.t 0)), none⟩,
  ⟨some 7, .app 3 40 (.t 5) (.t 6), none⟩,
  ⟨some 2, .val (.mov (.t 7)), none⟩]
def sl_Clone_lanes_Lane_c : ACode :=
  (.seq
    (.reg sl_Clone_lanes_Lane_r0 (some ([0], [5, 7])))
    (.seq
      (.seq
        (.reg sl_Clone_lanes_Lane_r1 (some ([0, 4], [5, 7])))
        (.cond (.t 4)
          (.seq
            (.reg sl_Clone_lanes_Lane_r2 (some ([2], [5, 7])))
            .ret)
          .skip))
      (.seq
        (.reg sl_Clone_lanes_Lane_r3 (some ([2], [5, 7])))
        .ret)))
def sl_Clone_lanes_Lane_k (P : Program) (F : Nat → Nat) : Prop := chkFn P (F 77) 1 (sl_Clone_lanes_Lane_c) [2] = true
def sl_Clone_int_r0 : List AOper := [
  ⟨some 2, .val (.mov (.k (.nil 1))), none⟩]
def sl_Clone_int_r1 : List AOper := [
  ⟨some 3, .val (.mov (.t 0)), none⟩,
  ⟨some 4, .val (.nilS (.t 3)), none⟩]
def sl_Clone_int_r2 : List AOper := [
  ⟨some 2, .val (.mov (.k (.nil 1))), none⟩]
def sl_Clone_int_r3 : List AOper := [
  ⟨some 5, .buildS 1 0 [.int .i64 0] [], none⟩,
  ⟨some 6, .val (.mov (.t 0)), none⟩,
  ⟨some 7, .app 1 8 (.t 5) (.t 6), none⟩,
  ⟨some 2, .val (.mov (.t 7)), none⟩]
def sl_Clone_int_c : ACode :=
  (.seq
    (.reg sl_Clone_int_r0 (some ([0], [5, 7])))
    (.seq
      (.seq
        (.reg sl_Clone_int_r1 (some ([0, 4], [5, 7])))
        (.cond (.t 4)
          (.seq
            (.reg sl_Clone_int_r2 (some ([2], [5, 7])))
            .ret)
          .skip))
      (.seq
        (.reg sl_Clone_int_r3 (some ([2], [5, 7])))
        .ret)))
def sl_Clone_int_k (P : Program) (F : Nat → Nat) : Prop := chkFn P (F 78) 1 (sl_Clone_int_c) [2] = true
def lanes_waits_r0 : List AOper := [
  ⟨some 1, .box 3 (.t 0), none⟩,
  ⟨some 2, .val (.mov (.k (.bool false))), none⟩]
def lanes_waits_r1 (F : Nat → Nat) : List AOper := [
  ⟨some 3, .val (.field 0 (.t 1)), none⟩,
  ⟨some 4, .val (.load1 (.t 3)), none⟩,
  ⟨some 5, .call (F 94) [(.t 4), (.k (.fn (F 95)))], none⟩,
  ⟨some 2, .val (.mov (.t 5)), none⟩]
def lanes_waits_c (F : Nat → Nat) : ACode :=
  (.seq
    (.reg lanes_waits_r0 (some ([1], [1])))
    (.seq
      (.reg (lanes_waits_r1 F) (some ([2], [])))
      .ret))
def lanes_waits_k (P : Program) (F : Nat → Nat) : Prop := chkFn P (F 93) 1 (lanes_waits_c F) [2] = true
def sl_ContainsFunc_lanes_Lane_r0 : List AOper := [
  ⟨some 4, .val (.mov (.k (.bool false))), none⟩]
def sl_ContainsFunc_lanes_Lane_r1 (F : Nat → Nat) : List AOper := [
  ⟨some 5, .val (.mov (.t 0)), none⟩,
  ⟨some 6, .val (.mov (.t 1)), none⟩,
  ⟨some 7, .call (F 144) [(.t 5), (.t 6)], none⟩,
  ⟨some 8, .val (.bin .geq false (.t 7) (.k (.int .i64 0))), none⟩,
  ⟨some 4, .val (.mov (.t 8)), none⟩]
def sl_ContainsFunc_lanes_Lane_c (F : Nat → Nat) : ACode :=
  (.seq
    (.reg sl_ContainsFunc_lanes_Lane_r0 (some ([0, 1], [])))
    (.seq
      (.reg (sl_ContainsFunc_lanes_Lane_r1 F) (some ([4], [])))
      .ret))
def sl_ContainsFunc_lanes_Lane_k (P : Program) (F : Nat → Nat) : Prop := chkFn P (F 94) 2 (sl_ContainsFunc_lanes_Lane_c F) [4] = true
def lanes_waits_1_r0 : List AOper := [
  ⟨some 1, .box 3 (.t 0), none⟩,
  ⟨some 2, .val (.mov (.k (.bool false))), none⟩]
def lanes_waits_1_r1 : List AOper := [
  ⟨some 3, .val (.field 2 (.t 1)), none⟩,
  ⟨some 4, .val (.load1 (.t 3)), none⟩,
  ⟨some 5, .val (.lenS (.t 4)), none⟩,
  ⟨some 6, .val (.bin .gtr false (.t 5) (.k (.int .i64 0))), none⟩,
  ⟨some 2, .val (.mov (.t 6)), none⟩]
def lanes_waits_1_c : ACode :=
  (.seq
    (.reg lanes_waits_1_r0 (some ([1], [1])))
    (.seq
      (.reg lanes_waits_1_r1 (some ([2], [])))
      .ret))
def lanes_waits_1_k (P : Program) (F : Nat → Nat) : Prop := chkFn P (F 95) 1 (lanes_waits_1_c) [2] = true
def sl_IndexFunc_lanes_Lane_r0 : List AOper := [
  ⟨some 4, .val (.mov (.k (.int .i64 0))), none⟩]
def sl_IndexFunc_lanes_Lane_r1 : List AOper := [
  ⟨some 6, .val (.mov (.t 0)), none⟩,
  ⟨some 7, .val (.lenS (.t 6)), none⟩,
  ⟨some 8, .val (.mov (.k (.int .i64 0))), none⟩]
def sl_IndexFunc_lanes_Lane_r2 : List AOper := [
  ⟨some 9, .val (.bin .lss false (.t 8) (.t 7)), none⟩]
def sl_IndexFunc_lanes_Lane_r3 : List AOper := [
  ⟨some 10, .val (.mov (.t 8)), none⟩,
  ⟨some 5, .val (.mov (.t 10)), none⟩]
def sl_IndexFunc_lanes_Lane_r4 : List AOper := [
  ⟨some 11, .val (.mov (.t 1)), none⟩,
  ⟨some 12, .val (.mov (.t 0)), none⟩,
  ⟨some 13, .val (.mov (.t 5)), none⟩,
  ⟨some 14, .val (.ixS 3 (.t 12) (.t 13)), none⟩,
  ⟨some 15, .val (.loadA 3 (.t 14)), none⟩,
  ⟨some 16, .callv (.t 11) [(.t 15)], none⟩]
def sl_IndexFunc_lanes_Lane_r5 : List AOper := [
  ⟨some 17, .val (.mov (.t 5)), none⟩,
  ⟨some 4, .val (.mov (.t 17)), none⟩]
def sl_IndexFunc_lanes_Lane_r6 : List AOper := [
  ⟨some 18, .val (.bin .add true (.t 8) (.k (.int .i64 1))), none⟩,
  ⟨some 8, .val (.mov (.t 18)), none⟩]
def sl_IndexFunc_lanes_Lane_r7 : List AOper := [
  ⟨some 4, .val (.mov (.k (.int .i64 (-1)))), none⟩]
def sl_IndexFunc_lanes_Lane_c : ACode :=
  (.seq
    (.reg sl_IndexFunc_lanes_Lane_r0 (some ([0, 1], [])))
    (.seq
      (.seq
        (.reg sl_IndexFunc_lanes_Lane_r1 (some ([0, 1, 7, 8], [])))
        (.block 0
          (.loop
            (.seq
              (.reg sl_IndexFunc_lanes_Lane_r2 (some ([0, 1, 7, 8, 9], [])))
              (.seq
                (.cond (.t 9)
                  .skip
                  (.exit 0))
                (.seq
                  (.block 1
                    (.seq
                      (.reg sl_IndexFunc_lanes_Lane_r3 (some ([0, 1, 5, 7, 8], [])))
                      (.seq
                        (.reg sl_IndexFunc_lanes_Lane_r4 (some ([0, 1, 5, 7, 8, 16], [])))
                        (.cond (.t 16)
                          (.seq
                            (.reg sl_IndexFunc_lanes_Lane_r5 (some ([4], [])))
                            .ret)
                          .skip))))
                  (.reg sl_IndexFunc_lanes_Lane_r6 (some ([0, 1, 7, 8], [])))))))))
      (.seq
        (.reg sl_IndexFunc_lanes_Lane_r7 (some ([4], [])))
        .ret)))
def sl_IndexFunc_lanes_Lane_k (P : Program) (F : Nat → Nat) : Prop := chkFn P (F 144) 2 (sl_IndexFunc_lanes_Lane_c) [4] = true
end Lk.C
