/-
  The code of functions, as the abstract machine's, over any numbering F of the program's functions.
-/
import Derived.Test.YtihjalnebgjmgaaLkC
namespace Lk.C
open Go Lk
/- lockkeeper/lockkeeperlaw12.JournalPlans : names 0 d, 1 page, 2 data, 3 d, 4 page, 5 data, 7 l, 8 e, 9 c, 10 f, 11 s, 12 g, 13 there, 14 want uns [] -/
/- law.go:34 -/
def law12_JournalPlans_r0 : List AOper := [
  ⟨some 3, .box 2 (.t 0), none⟩,
  ⟨some 6, .val (.mov (.k (.bool false))), none⟩]
/- law.go:35 -/
def law12_JournalPlans_r1 (F : Nat → Nat) : List AOper := [
  ⟨some 15, .val (.loadA 2 (.t 3)), none⟩,
  ⟨some 16, .call (F 31) [(.t 15)], none⟩,
  ⟨some 17, .val (.not (.t 16)), none⟩,
  ⟨some 18, .val (.mov (.t 17)), none⟩,
  ⟨some 19, .val (.mov (.t 2)), some (18, false)⟩,
  ⟨some 20, .val (.lenT (.t 19)), some (18, false)⟩,
  ⟨some 21, .val (.bin .gtr false (.t 20) (.k (.int .i64 100))), some (18, false)⟩,
  ⟨some 22, .val (.por (.t 18) (.t 21)), none⟩]
/- law.go:36 -/
def law12_JournalPlans_r2 (F : Nat → Nat) : List AOper := [
  ⟨some 23, .call (F 96) [], none⟩,
  ⟨some 6, .val (.mov (.t 23)), none⟩]
/- law.go:38 -/
def law12_JournalPlans_r3 (F : Nat → Nat) : List AOper := [
  ⟨some 25, .val (.loadA 2 (.t 3)), none⟩,
  ⟨some 26, .val (.mov (.t 1)), none⟩,
  ⟨some 27, .val (.mov (.t 2)), none⟩,
  ⟨some 28, .call (F 97) [(.t 25), (.t 26), (.t 27)], none⟩,
  ⟨some 24, .val (.mov (.t 28)), none⟩,
  ⟨some 29, .val (.extr 0 (.t 24)), none⟩,
  ⟨some 30, .val (.extr 1 (.t 24)), none⟩,
  ⟨some 7, .val (.mov (.t 29)), none⟩,
  ⟨some 8, .val (.mov (.t 30)), none⟩]
/- law.go:39 -/
def law12_JournalPlans_r4 (F : Nat → Nat) : List AOper := [
  ⟨some 32, .val (.loadA 2 (.t 3)), none⟩,
  ⟨some 33, .val (.mov (.t 1)), none⟩,
  ⟨some 34, .val (.mov (.t 2)), none⟩,
  ⟨some 35, .call (F 98) [(.t 32), (.t 33), (.t 34)], none⟩,
  ⟨some 31, .val (.mov (.t 35)), none⟩,
  ⟨some 36, .val (.extr 0 (.t 31)), none⟩,
  ⟨some 37, .val (.extr 1 (.t 31)), none⟩,
  ⟨some 9, .alloc 2 [.nil 1, .nil 2], none⟩,
  ⟨none, .stA true 2 (.t 9) (.t 36), none⟩,
  ⟨some 10, .val (.mov (.t 37)), none⟩]
/- law.go:40 -/
def law12_JournalPlans_r5 (F : Nat → Nat) : List AOper := [
  ⟨some 39, .val (.loadA 2 (.t 3)), none⟩,
  ⟨some 40, .val (.mov (.t 1)), none⟩,
  ⟨some 41, .call (F 99) [(.t 39), (.t 40)], none⟩,
  ⟨some 38, .val (.mov (.t 41)), none⟩,
  ⟨some 42, .val (.extr 0 (.t 38)), none⟩,
  ⟨some 43, .val (.extr 1 (.t 38)), none⟩,
  ⟨some 11, .val (.mov (.t 42)), none⟩,
  ⟨some 12, .val (.mov (.t 43)), none⟩]
/- law.go:41 -/
def law12_JournalPlans_r6 (F : Nat → Nat) : List AOper := [
  ⟨some 44, .val (.loadA 2 (.t 3)), none⟩,
  ⟨some 45, .call (F 100) [(.t 44)], none⟩,
  ⟨some 46, .val (.mov (.t 45)), none⟩,
  ⟨some 47, .val (.mov (.t 1)), some (46, true)⟩,
  ⟨some 48, .val (.bin .geq false (.t 47) (.k (.int .i64 1))), some (46, true)⟩,
  ⟨some 49, .val (.pand (.t 46) (.t 48)), none⟩,
  ⟨some 50, .val (.mov (.t 49)), none⟩,
  ⟨some 51, .val (.mov (.t 1)), some (50, true)⟩,
  ⟨some 52, .val (.bin .leq false (.t 51) (.k (.int .i64 16))), some (50, true)⟩,
  ⟨some 53, .val (.pand (.t 50) (.t 52)), none⟩,
  ⟨some 13, .val (.mov (.t 53)), none⟩]
/- law.go:42 -/
def law12_JournalPlans_r7 (F : Nat → Nat) : List AOper := [
  ⟨some 54, .val (.mov (.t 13)), none⟩,
  ⟨some 55, .val (.not (.t 54)), none⟩,
  ⟨some 56, .val (.mov (.t 55)), none⟩,
  ⟨some 57, .val (.mov (.t 11)), some (56, true)⟩,
  ⟨some 58, .val (.bin .neq false (.t 57) (.k (.str []))), some (56, true)⟩,
  ⟨some 59, .val (.mov (.t 58)), some (56, true)⟩,
  ⟨some 60, .val (.mov (.t 12)), some (59, false)⟩,
  ⟨some 61, .val (.bin .neq false (.t 60) (.k (.int .i64 1))), some (59, false)⟩,
  ⟨some 62, .val (.por (.t 59) (.t 61)), some (56, true)⟩,
  ⟨some 63, .val (.pand (.t 56) (.t 62)), none⟩,
  ⟨some 64, .val (.mov (.t 63)), none⟩,
  ⟨some 65, .val (.mov (.t 13)), some (64, false)⟩,
  ⟨some 66, .val (.mov (.t 65)), some (64, false)⟩,
  ⟨some 67, .val (.mov (.t 11)), some (66, true)⟩,
  ⟨some 68, .val (.loadA 2 (.t 3)), some (66, true)⟩,
  ⟨some 69, .val (.mov (.t 1)), some (66, true)⟩,
  ⟨some 70, .call (F 101) [(.t 68), (.t 69)], some (66, true)⟩,
  ⟨some 71, .val (.bin .neq false (.t 67) (.t 70)), some (66, true)⟩,
  ⟨some 72, .val (.mov (.t 71)), some (66, true)⟩,
  ⟨some 73, .val (.mov (.t 12)), some (72, false)⟩,
  ⟨some 74, .val (.bin .neq false (.t 73) (.k (.int .i64 0))), some (72, false)⟩,
  ⟨some 75, .val (.por (.t 72) (.t 74)), some (66, true)⟩,
  ⟨some 76, .val (.pand (.t 66) (.t 75)), some (64, false)⟩,
  ⟨some 77, .val (.por (.t 64) (.t 76)), none⟩]
/- law.go:43 -/
def law12_JournalPlans_r8 : List AOper := [
  ⟨some 6, .val (.mov (.k (.bool false))), none⟩]
/- law.go:45 -/
def law12_JournalPlans_r9 : List AOper := [
  ⟨some 78, .val (.mov (.t 13)), none⟩,
  ⟨some 79, .val (.not (.t 78)), none⟩,
  ⟨some 80, .val (.mov (.t 79)), none⟩,
  ⟨some 81, .val (.mov (.t 2)), some (80, false)⟩,
  ⟨some 82, .val (.lenT (.t 81)), some (80, false)⟩,
  ⟨some 83, .val (.bin .neq false (.t 82) (.k (.int .i64 32))), some (80, false)⟩,
  ⟨some 84, .val (.por (.t 80) (.t 83)), none⟩]
/- law.go:46 -/
def law12_JournalPlans_r10 (F : Nat → Nat) : List AOper := [
  ⟨some 85, .val (.mov (.t 7)), none⟩,
  ⟨some 86, .val (.lenS (.t 85)), none⟩,
  ⟨some 87, .val (.bin .eql false (.t 86) (.k (.int .i64 0))), none⟩,
  ⟨some 88, .val (.mov (.t 87)), none⟩,
  ⟨some 89, .val (.mov (.t 8)), some (88, true)⟩,
  ⟨some 90, .val (.bin .eql false (.t 89) (.k (.int .i64 1))), some (88, true)⟩,
  ⟨some 91, .val (.pand (.t 88) (.t 90)), none⟩,
  ⟨some 92, .val (.mov (.t 91)), none⟩,
  ⟨some 93, .val (.mov (.t 10)), some (92, true)⟩,
  ⟨some 94, .val (.bin .eql false (.t 93) (.k (.int .i64 1))), some (92, true)⟩,
  ⟨some 95, .val (.pand (.t 92) (.t 94)), none⟩,
  ⟨some 96, .val (.mov (.t 95)), none⟩,
  ⟨some 97, .val (.loadA 2 (.t 9)), some (96, true)⟩,
  ⟨some 98, .val (.loadA 2 (.t 3)), some (96, true)⟩,
  ⟨some 99, .call (F 38) [(.t 97), (.t 98)], some (96, true)⟩,
  ⟨some 100, .val (.pand (.t 96) (.t 99)), none⟩,
  ⟨some 101, .val (.mov (.t 100)), none⟩,
  ⟨some 102, .call (F 96) [], some (101, true)⟩,
  ⟨some 103, .val (.pand (.t 101) (.t 102)), none⟩,
  ⟨some 6, .val (.mov (.t 103)), none⟩]
/- law.go:48 -/
def law12_JournalPlans_r11 (F : Nat → Nat) : List AOper := [
  ⟨some 104, .val (.mov (.t 1)), none⟩,
  ⟨some 105, .val (.mov (.t 2)), none⟩,
  ⟨some 106, .call (F 102) [(.t 104), (.t 105)], none⟩,
  ⟨some 14, .val (.mov (.t 106)), none⟩]
/- law.go:49 DRAWS -/
def law12_JournalPlans_r12 (F : Nat → Nat) : List AOper := [
  ⟨some 107, .val (.mov (.t 7)), none⟩,
  ⟨some 108, .call (F 103) [(.t 107)], none⟩,
  ⟨some 109, .val (.mov (.t 14)), none⟩,
  ⟨some 110, .call (F 104) [(.t 108), (.t 109)], none⟩,
  ⟨some 111, .val (.mov (.t 110)), none⟩,
  ⟨some 112, .val (.mov (.t 8)), some (111, true)⟩,
  ⟨some 113, .val (.bin .eql false (.t 112) (.k (.int .i64 0))), some (111, true)⟩,
  ⟨some 114, .val (.pand (.t 111) (.t 113)), none⟩,
  ⟨some 115, .val (.mov (.t 114)), none⟩,
  ⟨some 116, .val (.mov (.t 10)), some (115, true)⟩,
  ⟨some 117, .val (.bin .eql false (.t 116) (.k (.int .i64 0))), some (115, true)⟩,
  ⟨some 118, .val (.pand (.t 115) (.t 117)), none⟩,
  ⟨some 119, .val (.mov (.t 118)), none⟩,
  ⟨some 120, .val (.loadA 2 (.t 9)), some (119, true)⟩,
  ⟨some 121, .val (.loadA 2 (.t 3)), some (119, true)⟩,
  ⟨some 122, .val (.mov (.t 14)), some (119, true)⟩,
  ⟨some 123, .call (F 105) [(.t 121), (.t 122), (.k (.int .i64 99))], some (119, true)⟩,
  ⟨some 124, .call (F 38) [(.t 120), (.t 123)], some (119, true)⟩,
  ⟨some 125, .val (.pand (.t 119) (.t 124)), none⟩,
  ⟨some 126, .val (.mov (.t 125)), none⟩,
  ⟨some 127, .call (F 96) [], some (126, true)⟩,
  ⟨some 128, .val (.pand (.t 126) (.t 127)), none⟩,
  ⟨some 6, .val (.mov (.t 128)), none⟩]
def law12_JournalPlans_c (F : Nat → Nat) : ACode :=
  (.seq
    (.reg law12_JournalPlans_r0 (some ([1, 2, 3], [3])))
    (.seq
      (.seq
        (.reg (law12_JournalPlans_r1 F) (some ([1, 2, 3, 22], [3])))
        (.cond (.t 22)
          (.seq
            (.reg (law12_JournalPlans_r2 F) (some ([6], [])))
            .ret)
          .skip))
      (.seq
        (.reg (law12_JournalPlans_r3 F) (some ([1, 2, 3, 7, 8], [3])))
        (.seq
          (.reg (law12_JournalPlans_r4 F) (some ([1, 2, 3, 7, 8, 9, 10], [3, 9])))
          (.seq
            (.reg (law12_JournalPlans_r5 F) (some ([1, 2, 3, 7, 8, 9, 10, 11, 12], [3, 9])))
            (.seq
              (.reg (law12_JournalPlans_r6 F) (some ([1, 2, 3, 7, 8, 9, 10, 11, 12, 13], [3, 9])))
              (.seq
                (.seq
                  (.reg (law12_JournalPlans_r7 F) (some ([1, 2, 3, 7, 8, 9, 10, 13, 77], [3, 9])))
                  (.cond (.t 77)
                    (.seq
                      (.reg law12_JournalPlans_r8 (some ([6], [])))
                      .ret)
                    .skip))
                (.seq
                  (.seq
                    (.reg law12_JournalPlans_r9 (some ([1, 2, 3, 7, 8, 9, 10, 84], [3, 9])))
                    (.cond (.t 84)
                      (.seq
                        (.reg (law12_JournalPlans_r10 F) (some ([6], [])))
                        .ret)
                      .skip))
                  (.seq
                    (.reg (law12_JournalPlans_r11 F) (some ([3, 7, 8, 9, 10, 14], [3, 9])))
                    (.seq
                      (.regD (law12_JournalPlans_r12 F) [(1, 2), (13, 16)] (some ([6], [])))
                      .ret))))))))))
def law12_JournalPlans_k (P : Program) (F : Nat → Nat) : Prop := chkFn P (F 106) 3 (law12_JournalPlans_c F) [6] = true

/- lockkeeper/lockkeeperlaw12.JournalMany : names 0 pages, 1 data, 2 pages, 3 data, 5 d, 6 _, 7 want, 8 i, 9 p, 10 c, 11 e, 12 p, 13 s, 14 e uns [] -/
/- law.go:128 -/
def law12_JournalMany_r0 : List AOper := [
  ⟨some 4, .val (.mov (.k (.bool false))), none⟩]
/- law.go:129 -/
def law12_JournalMany_r1 (F : Nat → Nat) : List AOper := [
  ⟨some 16, .call (F 28) [(.k (.int .i64 35))], none⟩,
  ⟨some 15, .val (.mov (.t 16)), none⟩,
  ⟨some 17, .val (.extr 0 (.t 15)), none⟩,
  ⟨some 18, .val (.extr 1 (.t 15)), none⟩,
  ⟨some 5, .alloc 2 [.nil 1, .nil 2], none⟩,
  ⟨none, .stA true 2 (.t 5) (.t 17), none⟩,
  ⟨some 6, .val (.mov (.t 18)), none⟩]
/- law.go:130 -/
def law12_JournalMany_r2 : List AOper := [
  ⟨some 7, .allocR 17 1 [.str []], none⟩]
/- law.go:131 -/
def law12_JournalMany_r3 : List AOper := [
  ⟨some 8, .val (.mov (.k (.int .i64 0))), none⟩]
/- law.go:131 -/
def law12_JournalMany_r4 : List AOper := [
  ⟨some 19, .val (.mov (.t 8)), none⟩,
  ⟨some 20, .val (.mov (.t 0)), none⟩,
  ⟨some 21, .val (.lenS (.t 20)), none⟩,
  ⟨some 22, .val (.bin .lss false (.t 19) (.t 21)), none⟩,
  ⟨some 23, .val (.mov (.t 22)), none⟩,
  ⟨some 24, .val (.mov (.t 8)), some (23, true)⟩,
  ⟨some 25, .val (.mov (.t 1)), some (23, true)⟩,
  ⟨some 26, .val (.lenS (.t 25)), some (23, true)⟩,
  ⟨some 27, .val (.bin .lss false (.t 24) (.t 26)), some (23, true)⟩,
  ⟨some 28, .val (.pand (.t 23) (.t 27)), none⟩,
  ⟨some 29, .val (.mov (.t 28)), none⟩,
  ⟨some 30, .val (.mov (.t 8)), some (29, true)⟩,
  ⟨some 31, .val (.bin .lss false (.t 30) (.k (.int .i64 30))), some (29, true)⟩,
  ⟨some 32, .val (.pand (.t 29) (.t 31)), none⟩]
/- law.go:132 -/
def law12_JournalMany_r6 : List AOper := [
  ⟨some 35, .val (.mov (.t 1)), none⟩,
  ⟨some 36, .val (.mov (.t 8)), none⟩,
  ⟨some 37, .val (.ixS 1 (.t 35) (.t 36)), none⟩,
  ⟨some 38, .val (.load1 (.t 37)), none⟩,
  ⟨some 39, .val (.lenT (.t 38)), none⟩,
  ⟨some 40, .val (.bin .neq false (.t 39) (.k (.int .i64 32))), none⟩]
/- law.go:133 -/
def law12_JournalMany_r7 (F : Nat → Nat) : List AOper := [
  ⟨some 41, .call (F 96) [], none⟩,
  ⟨some 4, .val (.mov (.t 41)), none⟩]
/- law.go:135 -/
def law12_JournalMany_r8 : List AOper := [
  ⟨some 42, .val (.mov (.t 0)), none⟩,
  ⟨some 43, .val (.mov (.t 8)), none⟩,
  ⟨some 44, .val (.ixS 1 (.t 42) (.t 43)), none⟩,
  ⟨some 45, .val (.load1 (.t 44)), none⟩,
  ⟨some 46, .val (.bin .rem true (.t 45) (.k (.int .u8 16))), none⟩,
  ⟨some 47, .val (.conv true .i64 (.t 46)), none⟩,
  ⟨some 48, .val (.bin .add true (.k (.int .i64 1)) (.t 47)), none⟩,
  ⟨some 9, .val (.mov (.t 48)), none⟩]
/- law.go:136 DRAWS -/
def law12_JournalMany_r9 (F : Nat → Nat) : List AOper := [
  ⟨some 50, .val (.loadA 2 (.t 5)), none⟩,
  ⟨some 51, .val (.mov (.t 9)), none⟩,
  ⟨some 52, .val (.mov (.t 1)), none⟩,
  ⟨some 53, .val (.mov (.t 8)), none⟩,
  ⟨some 54, .val (.ixS 1 (.t 52) (.t 53)), none⟩,
  ⟨some 55, .val (.load1 (.t 54)), none⟩,
  ⟨some 56, .call (F 98) [(.t 50), (.t 51), (.t 55)], none⟩,
  ⟨some 49, .val (.mov (.t 56)), none⟩,
  ⟨some 57, .val (.extr 0 (.t 49)), none⟩,
  ⟨some 58, .val (.extr 1 (.t 49)), none⟩,
  ⟨some 10, .alloc 2 [.nil 1, .nil 2], none⟩,
  ⟨none, .stA true 2 (.t 10) (.t 57), none⟩,
  ⟨some 11, .val (.mov (.t 58)), none⟩]
/- law.go:137 -/
def law12_JournalMany_r10 : List AOper := [
  ⟨some 59, .val (.mov (.t 11)), none⟩,
  ⟨some 60, .val (.bin .neq false (.t 59) (.k (.int .i64 0))), none⟩,
  ⟨some 61, .val (.mov (.t 60)), none⟩,
  ⟨some 62, .val (.field 1 (.t 10)), some (61, false)⟩,
  ⟨some 63, .val (.load1 (.t 62)), some (61, false)⟩,
  ⟨some 64, .val (.lenS (.t 63)), some (61, false)⟩,
  ⟨some 65, .val (.bin .neq false (.t 64) (.k (.int .i64 0))), some (61, false)⟩,
  ⟨some 66, .val (.por (.t 61) (.t 65)), none⟩]
/- law.go:138 -/
def law12_JournalMany_r11 : List AOper := [
  ⟨some 4, .val (.mov (.k (.bool false))), none⟩]
/- law.go:140 DRAWS -/
def law12_JournalMany_r12 : List AOper := [
  ⟨some 67, .val (.mov (.t 9)), none⟩,
  ⟨some 68, .val (.loadA 2 (.t 10)), none⟩,
  ⟨some 69, .val (.mov (.t 1)), none⟩,
  ⟨some 70, .val (.mov (.t 8)), none⟩,
  ⟨some 71, .val (.ixS 1 (.t 69) (.t 70)), none⟩,
  ⟨some 72, .val (.load1 (.t 71)), none⟩,
  ⟨none, .stA true 2 (.t 5) (.t 68), none⟩,
  ⟨some 73, .val (.ixA 1 17 (.t 7) (.t 67)), none⟩,
  ⟨none, .st1 true (.t 73) (.t 72), none⟩]
/- law.go:131 -/
def law12_JournalMany_r5 : List AOper := [
  ⟨some 33, .val (.mov (.t 8)), none⟩,
  ⟨some 34, .val (.bin .add true (.t 33) (.k (.int .i64 1))), none⟩,
  ⟨some 8, .val (.mov (.t 34)), none⟩]
/- law.go:142 -/
def law12_JournalMany_r13 : List AOper := [
  ⟨some 12, .val (.mov (.k (.int .i64 1))), none⟩]
/- law.go:142 -/
def law12_JournalMany_r14 : List AOper := [
  ⟨some 74, .val (.mov (.t 12)), none⟩,
  ⟨some 75, .val (.bin .leq false (.t 74) (.k (.int .i64 16))), none⟩]
/- law.go:143 -/
def law12_JournalMany_r16 (F : Nat → Nat) : List AOper := [
  ⟨some 79, .val (.loadA 2 (.t 5)), none⟩,
  ⟨some 80, .val (.mov (.t 12)), none⟩,
  ⟨some 81, .call (F 99) [(.t 79), (.t 80)], none⟩,
  ⟨some 78, .val (.mov (.t 81)), none⟩,
  ⟨some 82, .val (.extr 0 (.t 78)), none⟩,
  ⟨some 83, .val (.extr 1 (.t 78)), none⟩,
  ⟨some 13, .val (.mov (.t 82)), none⟩,
  ⟨some 14, .val (.mov (.t 83)), none⟩]
/- law.go:144 -/
def law12_JournalMany_r17 : List AOper := [
  ⟨some 84, .val (.mov (.t 14)), none⟩,
  ⟨some 85, .val (.bin .neq false (.t 84) (.k (.int .i64 0))), none⟩,
  ⟨some 86, .val (.mov (.t 85)), none⟩,
  ⟨some 87, .val (.mov (.t 12)), some (86, false)⟩,
  ⟨some 88, .val (.ixA 1 17 (.t 7) (.t 87)), some (86, false)⟩,
  ⟨some 89, .val (.load1 (.t 88)), some (86, false)⟩,
  ⟨some 90, .val (.bin .neq false (.t 89) (.k (.str []))), some (86, false)⟩,
  ⟨some 91, .val (.mov (.t 90)), some (86, false)⟩,
  ⟨some 92, .val (.mov (.t 13)), some (91, true)⟩,
  ⟨some 93, .val (.mov (.t 12)), some (91, true)⟩,
  ⟨some 94, .val (.ixA 1 17 (.t 7) (.t 93)), some (91, true)⟩,
  ⟨some 95, .val (.load1 (.t 94)), some (91, true)⟩,
  ⟨some 96, .val (.bin .neq false (.t 92) (.t 95)), some (91, true)⟩,
  ⟨some 97, .val (.pand (.t 91) (.t 96)), some (86, false)⟩,
  ⟨some 98, .val (.por (.t 86) (.t 97)), none⟩]
/- law.go:145 -/
def law12_JournalMany_r18 : List AOper := [
  ⟨some 4, .val (.mov (.k (.bool false))), none⟩]
/- law.go:142 -/
def law12_JournalMany_r15 : List AOper := [
  ⟨some 76, .val (.mov (.t 12)), none⟩,
  ⟨some 77, .val (.bin .add true (.t 76) (.k (.int .i64 1))), none⟩,
  ⟨some 12, .val (.mov (.t 77)), none⟩]
/- law.go:148 -/
def law12_JournalMany_r19 (F : Nat → Nat) : List AOper := [
  ⟨some 99, .val (.loadA 2 (.t 5)), none⟩,
  ⟨some 100, .call (F 107) [(.t 99)], none⟩,
  ⟨some 101, .val (.lenS (.t 100)), none⟩,
  ⟨some 102, .val (.bin .eql false (.t 101) (.k (.int .i64 0))), none⟩,
  ⟨some 103, .val (.mov (.t 102)), none⟩,
  ⟨some 104, .call (F 96) [], some (103, true)⟩,
  ⟨some 105, .val (.pand (.t 103) (.t 104)), none⟩,
  ⟨some 4, .val (.mov (.t 105)), none⟩]
def law12_JournalMany_c (F : Nat → Nat) : ACode :=
  (.seq
    (.reg law12_JournalMany_r0 (some ([0, 1], [])))
    (.seq
      (.reg (law12_JournalMany_r1 F) (some ([0, 1, 5], [5])))
      (.seq
        (.reg law12_JournalMany_r2 (some ([0, 1, 5, 7], [5, 7])))
        (.seq
          (.seq
            (.reg law12_JournalMany_r3 (some ([0, 1, 5, 7, 8], [5, 7])))
            (.block 0
              (.loop
                (.seq
                  (.seq
                    (.reg law12_JournalMany_r4 (some ([0, 1, 5, 7, 8, 32], [5, 7])))
                    (.cond (.t 32)
                      .skip
                      (.exit 0)))
                  (.seq
                    (.block 1
                      (.seq
                        (.seq
                          (.reg law12_JournalMany_r6 (some ([0, 1, 5, 7, 8, 40], [5, 7])))
                          (.cond (.t 40)
                            (.seq
                              (.reg (law12_JournalMany_r7 F) (some ([4], [])))
                              .ret)
                            .skip))
                        (.seq
                          (.reg law12_JournalMany_r8 (some ([0, 1, 5, 7, 8, 9], [5, 7])))
                          (.seq
                            (.regD (law12_JournalMany_r9 F) [(0, 10), (1, 10), (2, 10), (3, 10), (4, 10), (5, 10), (6, 10), (7, 10), (8, 10), (9, 10), (9, 11)] (some ([0, 1, 5, 7, 8, 9, 10, 11], [5, 7, 10])))
                            (.seq
                              (.seq
                                (.reg law12_JournalMany_r10 (some ([0, 1, 5, 7, 8, 9, 10, 66], [5, 7, 10])))
                                (.cond (.t 66)
                                  (.seq
                                    (.reg law12_JournalMany_r11 (some ([4], [])))
                                    .ret)
                                  .skip))
                              (.regD law12_JournalMany_r12 [(0, 6), (2, 6), (3, 6), (4, 6), (5, 6)] (some ([0, 1, 5, 7, 8], [5, 7]))))))))
                    (.reg law12_JournalMany_r5 (some ([0, 1, 5, 7, 8], [5, 7]))))))))
          (.seq
            (.seq
              (.reg law12_JournalMany_r13 (some ([5, 7, 12], [5, 7])))
              (.block 2
                (.loop
                  (.seq
                    (.seq
                      (.reg law12_JournalMany_r14 (some ([5, 7, 12, 75], [5, 7])))
                      (.cond (.t 75)
                        .skip
                        (.exit 2)))
                    (.seq
                      (.block 3
                        (.seq
                          (.reg (law12_JournalMany_r16 F) (some ([5, 7, 12, 13, 14], [5, 7])))
                          (.seq
                            (.reg law12_JournalMany_r17 (some ([5, 7, 12, 98], [5, 7])))
                            (.cond (.t 98)
                              (.seq
                                (.reg law12_JournalMany_r18 (some ([4], [])))
                                .ret)
                              .skip))))
                      (.reg law12_JournalMany_r15 (some ([5, 7, 12], [5, 7]))))))))
            (.seq
              (.reg (law12_JournalMany_r19 F) (some ([4], [])))
              .ret))))))
def law12_JournalMany_k (P : Program) (F : Nat → Nat) : Prop := chkFn P (F 108) 2 (law12_JournalMany_c F) [4] = true

/- lockkeeper/lockkeeperlaw12.JournalIdle : names 0 pages, 1 page, 2 data, 3 pages, 4 page, 5 data, 7 was, 8 p, 9 l, 10 e, 11 n, 12 d, 13 id, 14 a, 15 f, 16 b, 17 g uns [] -/
/- law.go:152 -/
def law12_JournalIdle_r0 : List AOper := [
  ⟨some 6, .val (.mov (.k (.bool false))), none⟩]
/- law.go:153 -/
def law12_JournalIdle_r1 (F : Nat → Nat) : List AOper := [
  ⟨some 18, .val (.mov (.t 0)), none⟩,
  ⟨some 19, .call (F 109) [(.t 18)], none⟩,
  ⟨some 7, .alloc 2 [.nil 1, .nil 2], none⟩,
  ⟨none, .stA true 2 (.t 7) (.t 19), none⟩]
/- law.go:154 -/
def law12_JournalIdle_r2 : List AOper := [
  ⟨some 20, .val (.mov (.t 2)), none⟩,
  ⟨some 21, .val (.lenT (.t 20)), none⟩,
  ⟨some 22, .val (.bin .neq false (.t 21) (.k (.int .i64 32))), none⟩,
  ⟨some 23, .val (.mov (.t 22)), none⟩,
  ⟨some 24, .val (.field 0 (.t 7)), some (23, false)⟩,
  ⟨some 25, .val (.load1 (.t 24)), some (23, false)⟩,
  ⟨some 26, .val (.lenS (.t 25)), some (23, false)⟩,
  ⟨some 27, .val (.bin .neq false (.t 26) (.k (.int .i64 35))), some (23, false)⟩,
  ⟨some 28, .val (.por (.t 23) (.t 27)), none⟩]
/- law.go:155 -/
def law12_JournalIdle_r3 (F : Nat → Nat) : List AOper := [
  ⟨some 29, .val (.mov (.t 2)), none⟩,
  ⟨some 30, .val (.lenT (.t 29)), none⟩,
  ⟨some 31, .val (.bin .neq false (.t 30) (.k (.int .i64 32))), none⟩,
  ⟨some 32, .val (.mov (.t 31)), none⟩,
  ⟨some 33, .call (F 96) [], some (32, true)⟩,
  ⟨some 34, .val (.pand (.t 32) (.t 33)), none⟩,
  ⟨some 6, .val (.mov (.t 34)), none⟩]
/- law.go:157 -/
def law12_JournalIdle_r4 : List AOper := [
  ⟨some 35, .val (.mov (.t 1)), none⟩,
  ⟨some 36, .val (.bin .rem true (.t 35) (.k (.int .u8 16))), none⟩,
  ⟨some 37, .val (.conv true .i64 (.t 36)), none⟩,
  ⟨some 38, .val (.bin .add true (.k (.int .i64 1)) (.t 37)), none⟩,
  ⟨some 8, .val (.mov (.t 38)), none⟩]
/- law.go:158 -/
def law12_JournalIdle_r5 (F : Nat → Nat) : List AOper := [
  ⟨some 40, .val (.loadA 2 (.t 7)), none⟩,
  ⟨some 41, .val (.mov (.t 8)), none⟩,
  ⟨some 42, .val (.mov (.t 2)), none⟩,
  ⟨some 43, .call (F 97) [(.t 40), (.t 41), (.t 42)], none⟩,
  ⟨some 39, .val (.mov (.t 43)), none⟩,
  ⟨some 44, .val (.extr 0 (.t 39)), none⟩,
  ⟨some 45, .val (.extr 1 (.t 39)), none⟩,
  ⟨some 9, .val (.mov (.t 44)), none⟩,
  ⟨some 10, .val (.mov (.t 45)), none⟩]
/- law.go:159 DRAWS -/
def law12_JournalIdle_r6 (F : Nat → Nat) : List AOper := [
  ⟨some 46, .val (.mov (.t 10)), none⟩,
  ⟨some 47, .val (.bin .neq false (.t 46) (.k (.int .i64 0))), none⟩,
  ⟨some 48, .val (.mov (.t 47)), none⟩,
  ⟨some 49, .val (.mov (.t 9)), some (48, false)⟩,
  ⟨some 50, .val (.lenS (.t 49)), some (48, false)⟩,
  ⟨some 51, .val (.bin .neq false (.t 50) (.k (.int .i64 10))), some (48, false)⟩,
  ⟨some 52, .val (.por (.t 48) (.t 51)), none⟩,
  ⟨some 53, .val (.mov (.t 52)), none⟩,
  ⟨some 54, .val (.loadA 2 (.t 7)), some (53, false)⟩,
  ⟨some 55, .call (F 107) [(.t 54)], some (53, false)⟩,
  ⟨some 56, .val (.lenS (.t 55)), some (53, false)⟩,
  ⟨some 57, .val (.bin .neq false (.t 56) (.k (.int .i64 0))), some (53, false)⟩,
  ⟨some 58, .val (.por (.t 53) (.t 57)), none⟩,
  ⟨some 59, .val (.mov (.t 58)), none⟩,
  ⟨some 60, .val (.loadA 2 (.t 7)), some (59, false)⟩,
  ⟨some 61, .call (F 110) [(.t 60)], some (59, false)⟩,
  ⟨some 62, .val (.loadA 2 (.t 7)), some (59, false)⟩,
  ⟨some 63, .call (F 38) [(.t 61), (.t 62)], some (59, false)⟩,
  ⟨some 64, .val (.not (.t 63)), some (59, false)⟩,
  ⟨some 65, .val (.por (.t 59) (.t 64)), none⟩]
/- law.go:160 -/
def law12_JournalIdle_r7 : List AOper := [
  ⟨some 6, .val (.mov (.k (.bool false))), none⟩]
/- law.go:162 -/
def law12_JournalIdle_r8 : List AOper := [
  ⟨some 66, .val (.mov (.k (.int .i64 0))), none⟩]
/- law.go:162 -/
def law12_JournalIdle_r9 : List AOper := [
  ⟨some 67, .val (.bin .lss false (.t 66) (.k (.int .i64 11))), none⟩]
/- law.go:162 -/
def law12_JournalIdle_r10 : List AOper := [
  ⟨some 68, .val (.mov (.t 66)), none⟩,
  ⟨some 11, .val (.mov (.t 68)), none⟩]
/- law.go:163 -/
def law12_JournalIdle_r11 (F : Nat → Nat) : List AOper := [
  ⟨some 69, .val (.loadA 2 (.t 7)), none⟩,
  ⟨some 70, .val (.mov (.t 9)), none⟩,
  ⟨some 71, .val (.mov (.t 11)), none⟩,
  ⟨some 72, .call (F 111) [(.t 69), (.t 70), (.t 71)], none⟩,
  ⟨some 12, .alloc 2 [.nil 1, .nil 2], none⟩,
  ⟨none, .stA true 2 (.t 12) (.t 72), none⟩]
/- law.go:164 -/
def law12_JournalIdle_r12 : List AOper := [
  ⟨some 13, .val (.mov (.k (.int .i64 1))), none⟩]
/- law.go:164 -/
def law12_JournalIdle_r13 : List AOper := [
  ⟨some 73, .val (.mov (.t 13)), none⟩,
  ⟨some 74, .val (.bin .leq false (.t 73) (.k (.int .i64 16))), none⟩]
/- law.go:165 -/
def law12_JournalIdle_r15 (F : Nat → Nat) : List AOper := [
  ⟨some 78, .val (.loadA 2 (.t 12)), none⟩,
  ⟨some 79, .val (.mov (.t 13)), none⟩,
  ⟨some 80, .call (F 99) [(.t 78), (.t 79)], none⟩,
  ⟨some 77, .val (.mov (.t 80)), none⟩,
  ⟨some 81, .val (.extr 0 (.t 77)), none⟩,
  ⟨some 82, .val (.extr 1 (.t 77)), none⟩,
  ⟨some 14, .val (.mov (.t 81)), none⟩,
  ⟨some 15, .val (.mov (.t 82)), none⟩]
/- law.go:166 -/
def law12_JournalIdle_r16 (F : Nat → Nat) : List AOper := [
  ⟨some 84, .val (.loadA 2 (.t 12)), none⟩,
  ⟨some 85, .call (F 110) [(.t 84)], none⟩,
  ⟨some 86, .val (.mov (.t 13)), none⟩,
  ⟨some 87, .call (F 99) [(.t 85), (.t 86)], none⟩,
  ⟨some 83, .val (.mov (.t 87)), none⟩,
  ⟨some 88, .val (.extr 0 (.t 83)), none⟩,
  ⟨some 89, .val (.extr 1 (.t 83)), none⟩,
  ⟨some 16, .val (.mov (.t 88)), none⟩,
  ⟨some 17, .val (.mov (.t 89)), none⟩]
/- law.go:167 -/
def law12_JournalIdle_r17 : List AOper := [
  ⟨some 90, .val (.mov (.t 15)), none⟩,
  ⟨some 91, .val (.bin .neq false (.t 90) (.k (.int .i64 0))), none⟩,
  ⟨some 92, .val (.mov (.t 91)), none⟩,
  ⟨some 93, .val (.mov (.t 17)), some (92, false)⟩,
  ⟨some 94, .val (.bin .neq false (.t 93) (.k (.int .i64 0))), some (92, false)⟩,
  ⟨some 95, .val (.por (.t 92) (.t 94)), none⟩,
  ⟨some 96, .val (.mov (.t 95)), none⟩,
  ⟨some 97, .val (.mov (.t 14)), some (96, false)⟩,
  ⟨some 98, .val (.mov (.t 16)), some (96, false)⟩,
  ⟨some 99, .val (.bin .neq false (.t 97) (.t 98)), some (96, false)⟩,
  ⟨some 100, .val (.mov (.t 99)), some (96, false)⟩,
  ⟨some 101, .val (.mov (.t 13)), some (100, true)⟩,
  ⟨some 102, .val (.mov (.t 8)), some (100, true)⟩,
  ⟨some 103, .val (.bin .neq false (.t 101) (.t 102)), some (100, true)⟩,
  ⟨some 104, .val (.mov (.t 103)), some (100, true)⟩,
  ⟨some 105, .val (.mov (.t 11)), some (104, false)⟩,
  ⟨some 106, .val (.bin .lss false (.t 105) (.k (.int .i64 4))), some (104, false)⟩,
  ⟨some 107, .val (.por (.t 104) (.t 106)), some (100, true)⟩,
  ⟨some 108, .val (.mov (.t 107)), some (100, true)⟩,
  ⟨some 109, .val (.mov (.t 11)), some (108, false)⟩,
  ⟨some 110, .val (.bin .gtr false (.t 109) (.k (.int .i64 6))), some (108, false)⟩,
  ⟨some 111, .val (.por (.t 108) (.t 110)), some (100, true)⟩,
  ⟨some 112, .val (.pand (.t 100) (.t 111)), some (96, false)⟩,
  ⟨some 113, .val (.por (.t 96) (.t 112)), none⟩]
/- law.go:168 -/
def law12_JournalIdle_r18 : List AOper := [
  ⟨some 6, .val (.mov (.k (.bool false))), none⟩]
/- law.go:164 -/
def law12_JournalIdle_r14 : List AOper := [
  ⟨some 75, .val (.mov (.t 13)), none⟩,
  ⟨some 76, .val (.bin .add true (.t 75) (.k (.int .i64 1))), none⟩,
  ⟨some 13, .val (.mov (.t 76)), none⟩]
/- law.go:162 -/
def law12_JournalIdle_r19 : List AOper := [
  ⟨some 114, .val (.bin .add true (.t 66) (.k (.int .i64 1))), none⟩,
  ⟨some 66, .val (.mov (.t 114)), none⟩]
/- law.go:172 -/
def law12_JournalIdle_r20 (F : Nat → Nat) : List AOper := [
  ⟨some 115, .call (F 96) [], none⟩,
  ⟨some 6, .val (.mov (.t 115)), none⟩]
def law12_JournalIdle_c (F : Nat → Nat) : ACode :=
  (.seq
    (.reg law12_JournalIdle_r0 (some ([0, 1, 2], [])))
    (.seq
      (.reg (law12_JournalIdle_r1 F) (some ([1, 2, 7], [7])))
      (.seq
        (.seq
          (.reg law12_JournalIdle_r2 (some ([1, 2, 7, 28], [7])))
          (.cond (.t 28)
            (.seq
              (.reg (law12_JournalIdle_r3 F) (some ([6], [])))
              .ret)
            .skip))
        (.seq
          (.reg law12_JournalIdle_r4 (some ([2, 7, 8], [7])))
          (.seq
            (.reg (law12_JournalIdle_r5 F) (some ([7, 8, 9, 10], [7])))
            (.seq
              (.seq
                (.regD (law12_JournalIdle_r6 F) [(15, 16)] (some ([7, 8, 9, 65], [7])))
                (.cond (.t 65)
                  (.seq
                    (.reg law12_JournalIdle_r7 (some ([6], [])))
                    .ret)
                  .skip))
              (.seq
                (.seq
                  (.reg law12_JournalIdle_r8 (some ([7, 8, 9, 66], [7])))
                  (.block 0
                    (.loop
                      (.seq
                        (.reg law12_JournalIdle_r9 (some ([7, 8, 9, 66, 67], [7])))
                        (.seq
                          (.cond (.t 67)
                            .skip
                            (.exit 0))
                          (.seq
                            (.block 1
                              (.seq
                                (.reg law12_JournalIdle_r10 (some ([7, 8, 9, 11, 66], [7])))
                                (.seq
                                  (.reg (law12_JournalIdle_r11 F) (some ([7, 8, 9, 11, 12, 66], [7, 12])))
                                  (.seq
                                    (.reg law12_JournalIdle_r12 (some ([7, 8, 9, 11, 12, 13, 66], [7, 12])))
                                    (.block 2
                                      (.loop
                                        (.seq
                                          (.seq
                                            (.reg law12_JournalIdle_r13 (some ([7, 8, 9, 11, 12, 13, 66, 74], [7, 12])))
                                            (.cond (.t 74)
                                              .skip
                                              (.exit 2)))
                                          (.seq
                                            (.block 3
                                              (.seq
                                                (.reg (law12_JournalIdle_r15 F) (some ([7, 8, 9, 11, 12, 13, 14, 15, 66], [7, 12])))
                                                (.seq
                                                  (.reg (law12_JournalIdle_r16 F) (some ([7, 8, 9, 11, 12, 13, 14, 15, 16, 17, 66], [7, 12])))
                                                  (.seq
                                                    (.reg law12_JournalIdle_r17 (some ([7, 8, 9, 11, 12, 13, 66, 113], [7, 12])))
                                                    (.cond (.t 113)
                                                      (.seq
                                                        (.reg law12_JournalIdle_r18 (some ([6], [])))
                                                        .ret)
                                                      .skip)))))
                                            (.reg law12_JournalIdle_r14 (some ([7, 8, 9, 11, 12, 13, 66], [7, 12])))))))))))
                            (.reg law12_JournalIdle_r19 (some ([7, 8, 9, 66], [7])))))))))
                (.seq
                  (.reg (law12_JournalIdle_r20 F) (some ([6], [])))
                  .ret))))))))
def law12_JournalIdle_k (P : Program) (F : Nat → Nat) : Prop := chkFn P (F 112) 3 (law12_JournalIdle_c F) [6] = true

/- lockkeeper/lockkeeperlaw12.JournalHead : names 0 pages, 1 head, 2 pages, 3 head, 5 was, 6 noughts, 7 right, 8 i, 9 c, 10 d, 11 l, 12 c uns [] -/
/- law.go:176 -/
def law12_JournalHead_r0 : List AOper := [
  ⟨some 3, .boxR 16 (.t 1), none⟩,
  ⟨some 4, .val (.mov (.k (.bool false))), none⟩]
/- law.go:177 -/
def law12_JournalHead_r1 (F : Nat → Nat) : List AOper := [
  ⟨some 13, .val (.mov (.t 0)), none⟩,
  ⟨some 14, .call (F 109) [(.t 13)], none⟩,
  ⟨some 5, .alloc 2 [.nil 1, .nil 2], none⟩,
  ⟨none, .stA true 2 (.t 5) (.t 14), none⟩]
/- law.go:178 -/
def law12_JournalHead_r2 : List AOper := [
  ⟨some 15, .val (.field 0 (.t 5)), none⟩,
  ⟨some 16, .val (.load1 (.t 15)), none⟩,
  ⟨some 17, .val (.lenS (.t 16)), none⟩,
  ⟨some 18, .val (.bin .neq false (.t 17) (.k (.int .i64 35))), none⟩]
/- law.go:179 -/
def law12_JournalHead_r3 : List AOper := [
  ⟨some 4, .val (.mov (.k (.bool false))), none⟩]
/- law.go:181 DRAWS -/
def law12_JournalHead_r4 : List AOper := [
  ⟨some 19, .val (.ixA 1 16 (.t 3) (.k (.int .i64 0))), none⟩,
  ⟨some 20, .val (.load1 (.t 19)), none⟩,
  ⟨some 21, .val (.bin .eql false (.t 20) (.k (.int .u8 74))), none⟩,
  ⟨some 22, .val (.mov (.t 21)), none⟩,
  ⟨some 23, .val (.ixA 1 16 (.t 3) (.k (.int .i64 1))), some (22, true)⟩,
  ⟨some 24, .val (.load1 (.t 23)), some (22, true)⟩,
  ⟨some 25, .val (.bin .geq false (.t 24) (.k (.int .u8 1))), some (22, true)⟩,
  ⟨some 26, .val (.pand (.t 22) (.t 25)), none⟩,
  ⟨some 27, .val (.mov (.t 26)), none⟩,
  ⟨some 28, .val (.ixA 1 16 (.t 3) (.k (.int .i64 1))), some (27, true)⟩,
  ⟨some 29, .val (.load1 (.t 28)), some (27, true)⟩,
  ⟨some 30, .val (.bin .leq false (.t 29) (.k (.int .u8 16))), some (27, true)⟩,
  ⟨some 31, .val (.pand (.t 27) (.t 30)), none⟩,
  ⟨some 6, .val (.mov (.k (.bool true))), none⟩,
  ⟨some 7, .val (.mov (.t 31)), none⟩]
/- law.go:182 -/
def law12_JournalHead_r5 : List AOper := [
  ⟨some 32, .val (.loadR 16 (.t 3)), none⟩,
  ⟨some 33, .val (.mov (.k (.int .i64 0))), none⟩]
/- law.go:182 -/
def law12_JournalHead_r6 : List AOper := [
  ⟨some 34, .val (.bin .lss false (.t 33) (.k (.int .i64 16))), none⟩]
/- law.go:182 -/
def law12_JournalHead_r7 : List AOper := [
  ⟨some 35, .val (.mov (.t 33)), none⟩,
  ⟨some 36, .val (.idxA 16 (.t 32) (.t 33)), none⟩,
  ⟨some 8, .val (.mov (.t 35)), none⟩,
  ⟨some 9, .val (.mov (.t 36)), none⟩]
/- law.go:183 -/
def law12_JournalHead_r8 : List AOper := [
  ⟨some 37, .val (.mov (.t 6)), none⟩,
  ⟨some 38, .val (.mov (.t 37)), none⟩,
  ⟨some 39, .val (.mov (.t 9)), some (38, true)⟩,
  ⟨some 40, .val (.bin .eql false (.t 39) (.k (.int .u8 0))), some (38, true)⟩,
  ⟨some 41, .val (.pand (.t 38) (.t 40)), none⟩,
  ⟨some 6, .val (.mov (.t 41)), none⟩]
/- law.go:184 -/
def law12_JournalHead_r9 : List AOper := [
  ⟨some 42, .val (.mov (.t 7)), none⟩,
  ⟨some 43, .val (.mov (.t 42)), none⟩,
  ⟨some 44, .val (.mov (.t 8)), some (43, true)⟩,
  ⟨some 45, .val (.bin .lss false (.t 44) (.k (.int .i64 2))), some (43, true)⟩,
  ⟨some 46, .val (.mov (.t 45)), some (43, true)⟩,
  ⟨some 47, .val (.mov (.t 9)), some (46, false)⟩,
  ⟨some 48, .val (.bin .eql false (.t 47) (.k (.int .u8 0))), some (46, false)⟩,
  ⟨some 49, .val (.por (.t 46) (.t 48)), some (43, true)⟩,
  ⟨some 50, .val (.pand (.t 43) (.t 49)), none⟩,
  ⟨some 7, .val (.mov (.t 50)), none⟩]
/- law.go:182 -/
def law12_JournalHead_r10 : List AOper := [
  ⟨some 51, .val (.bin .add true (.t 33) (.k (.int .i64 1))), none⟩,
  ⟨some 33, .val (.mov (.t 51)), none⟩]
/- law.go:186 DRAWS -/
def law12_JournalHead_r11 : List AOper := [
  ⟨some 52, .val (.slA 1 16 (.t 3)), none⟩,
  ⟨some 53, .val (.b2s (.t 52)), none⟩,
  ⟨some 54, .buildS 1 1 [.str []] [(0, (.t 53))], none⟩,
  ⟨some 55, .val (.field 0 (.t 5)), none⟩,
  ⟨some 56, .val (.load1 (.t 55)), none⟩,
  ⟨some 57, .val (.slS 1 (.t 56) (some (.k (.int .i64 1))) none), none⟩,
  ⟨some 58, .app 1 16 (.t 54) (.t 57), none⟩,
  ⟨some 59, .val (.build 2 [.nil 1, .nil 2] [(0, 1, (.t 58))]), none⟩,
  ⟨some 10, .alloc 2 [.nil 1, .nil 2], none⟩,
  ⟨none, .stA true 2 (.t 10) (.t 59), none⟩]
/- law.go:187 -/
def law12_JournalHead_r12 (F : Nat → Nat) : List AOper := [
  ⟨some 60, .val (.loadA 2 (.t 10)), none⟩,
  ⟨some 61, .call (F 107) [(.t 60)], none⟩,
  ⟨some 11, .val (.mov (.t 61)), none⟩]
/- law.go:188 -/
def law12_JournalHead_r13 (F : Nat → Nat) : List AOper := [
  ⟨some 62, .val (.loadA 2 (.t 10)), none⟩,
  ⟨some 63, .call (F 110) [(.t 62)], none⟩,
  ⟨some 12, .alloc 2 [.nil 1, .nil 2], none⟩,
  ⟨none, .stA true 2 (.t 12) (.t 63), none⟩]
/- law.go:189 -/
def law12_JournalHead_r14 : List AOper := [
  ⟨some 64, .val (.mov (.t 6)), none⟩]
/- law.go:190 -/
def law12_JournalHead_r15 (F : Nat → Nat) : List AOper := [
  ⟨some 65, .val (.mov (.t 11)), none⟩,
  ⟨some 66, .val (.lenS (.t 65)), none⟩,
  ⟨some 67, .val (.bin .eql false (.t 66) (.k (.int .i64 0))), none⟩,
  ⟨some 68, .val (.mov (.t 67)), none⟩,
  ⟨some 69, .call (F 96) [], some (68, true)⟩,
  ⟨some 70, .val (.pand (.t 68) (.t 69)), none⟩,
  ⟨some 4, .val (.mov (.t 70)), none⟩]
/- law.go:192 -/
def law12_JournalHead_r16 : List AOper := [
  ⟨some 71, .val (.mov (.t 7)), none⟩]
/- law.go:193 DRAWS -/
def law12_JournalHead_r17 (F : Nat → Nat) : List AOper := [
  ⟨some 72, .val (.mov (.t 11)), none⟩,
  ⟨some 73, .val (.lenS (.t 72)), none⟩,
  ⟨some 74, .val (.bin .eql false (.t 73) (.k (.int .i64 5))), none⟩,
  ⟨some 75, .val (.mov (.t 74)), none⟩,
  ⟨some 76, .val (.field 0 (.t 12)), some (75, true)⟩,
  ⟨some 77, .val (.load1 (.t 76)), some (75, true)⟩,
  ⟨some 78, .val (.lenS (.t 77)), some (75, true)⟩,
  ⟨some 79, .val (.bin .eql false (.t 78) (.k (.int .i64 35))), some (75, true)⟩,
  ⟨some 80, .val (.pand (.t 75) (.t 79)), none⟩,
  ⟨some 81, .val (.mov (.t 80)), none⟩,
  ⟨some 82, .val (.field 0 (.t 12)), some (81, true)⟩,
  ⟨some 83, .val (.load1 (.t 82)), some (81, true)⟩,
  ⟨some 84, .val (.ixS 1 (.t 83) (.k (.int .i64 0))), some (81, true)⟩,
  ⟨some 85, .val (.load1 (.t 84)), some (81, true)⟩,
  ⟨some 86, .val (.field 0 (.t 5)), some (81, true)⟩,
  ⟨some 87, .val (.load1 (.t 86)), some (81, true)⟩,
  ⟨some 88, .val (.ixS 1 (.t 87) (.k (.int .i64 0))), some (81, true)⟩,
  ⟨some 89, .val (.load1 (.t 88)), some (81, true)⟩,
  ⟨some 90, .val (.bin .eql false (.t 85) (.t 89)), some (81, true)⟩,
  ⟨some 91, .val (.pand (.t 81) (.t 90)), none⟩,
  ⟨some 92, .val (.mov (.t 91)), none⟩,
  ⟨some 93, .call (F 96) [], some (92, true)⟩,
  ⟨some 94, .val (.pand (.t 92) (.t 93)), none⟩,
  ⟨some 4, .val (.mov (.t 94)), none⟩]
/- law.go:195 -/
def law12_JournalHead_r18 (F : Nat → Nat) : List AOper := [
  ⟨some 95, .val (.mov (.t 11)), none⟩,
  ⟨some 96, .val (.lenS (.t 95)), none⟩,
  ⟨some 97, .val (.bin .eql false (.t 96) (.k (.int .i64 2))), none⟩,
  ⟨some 98, .val (.mov (.t 97)), none⟩,
  ⟨some 99, .val (.loadA 2 (.t 12)), some (98, true)⟩,
  ⟨some 100, .val (.loadA 2 (.t 5)), some (98, true)⟩,
  ⟨some 101, .call (F 38) [(.t 99), (.t 100)], some (98, true)⟩,
  ⟨some 102, .val (.pand (.t 98) (.t 101)), none⟩,
  ⟨some 103, .val (.mov (.t 102)), none⟩,
  ⟨some 104, .call (F 96) [], some (103, true)⟩,
  ⟨some 105, .val (.pand (.t 103) (.t 104)), none⟩,
  ⟨some 4, .val (.mov (.t 105)), none⟩]
def law12_JournalHead_c (F : Nat → Nat) : ACode :=
  (.seq
    (.reg law12_JournalHead_r0 (some ([0, 3], [3, 54, 58])))
    (.seq
      (.reg (law12_JournalHead_r1 F) (some ([3, 5], [3, 5, 54, 58])))
      (.seq
        (.seq
          (.reg law12_JournalHead_r2 (some ([3, 5, 18], [3, 5, 54, 58])))
          (.cond (.t 18)
            (.seq
              (.reg law12_JournalHead_r3 (some ([4], [54, 58])))
              .ret)
            .skip))
        (.seq
          (.regD law12_JournalHead_r4 [] (some ([3, 5, 6, 7], [3, 5, 54, 58])))
          (.seq
            (.seq
              (.reg law12_JournalHead_r5 (some ([3, 5, 6, 7, 32, 33], [3, 5, 54, 58])))
              (.block 0
                (.loop
                  (.seq
                    (.reg law12_JournalHead_r6 (some ([3, 5, 6, 7, 32, 33, 34], [3, 5, 54, 58])))
                    (.seq
                      (.cond (.t 34)
                        .skip
                        (.exit 0))
                      (.seq
                        (.block 1
                          (.seq
                            (.reg law12_JournalHead_r7 (some ([3, 5, 6, 7, 8, 9, 32, 33], [3, 5, 54, 58])))
                            (.seq
                              (.reg law12_JournalHead_r8 (some ([3, 5, 6, 7, 8, 9, 32, 33], [3, 5, 54, 58])))
                              (.reg law12_JournalHead_r9 (some ([3, 5, 6, 7, 32, 33], [3, 5, 54, 58]))))))
                        (.reg law12_JournalHead_r10 (some ([3, 5, 6, 7, 32, 33], [3, 5, 54, 58])))))))))
            (.seq
              (.regD law12_JournalHead_r11 [(2, 3), (2, 4), (2, 5), (0, 8), (1, 8), (2, 8), (3, 8), (4, 8), (5, 8), (6, 8), (7, 8)] (some ([5, 6, 7, 10], [5, 10, 54, 58])))
              (.seq
                (.reg (law12_JournalHead_r12 F) (some ([5, 6, 7, 10, 11], [5, 10, 54, 58])))
                (.seq
                  (.reg (law12_JournalHead_r13 F) (some ([5, 6, 7, 11, 12], [5, 12, 54, 58])))
                  (.seq
                    (.seq
                      (.reg law12_JournalHead_r14 (some ([5, 7, 11, 12, 64], [5, 12, 54, 58])))
                      (.cond (.t 64)
                        (.seq
                          (.reg (law12_JournalHead_r15 F) (some ([4], [54, 58])))
                          .ret)
                        .skip))
                    (.seq
                      (.seq
                        (.reg law12_JournalHead_r16 (some ([5, 11, 12, 71], [5, 12, 54, 58])))
                        (.cond (.t 71)
                          (.seq
                            (.regD (law12_JournalHead_r17 F) [] (some ([4], [54, 58])))
                            .ret)
                          .skip))
                      (.seq
                        (.reg (law12_JournalHead_r18 F) (some ([4], [54, 58])))
                        .ret)))))))))))
def law12_JournalHead_k (P : Program) (F : Nat → Nat) : Prop := chkFn P (F 113) 2 (law12_JournalHead_c F) [4] = true

/- lockkeeper/lockkeeperlaw12.JournalApart : names 0 pages, 1 p, 2 q, 3 a, 4 b, 5 pages, 6 p, 7 q, 8 a, 9 b, 11 was, 12 i, 13 k, 14 x, 15 e, 16 f, 17 y, 18 g, 19 h, 20 id, 21 s, 22 c, 23 t, 24 d uns [] -/
/- law.go:199 -/
def law12_JournalApart_r0 : List AOper := [
  ⟨some 10, .val (.mov (.k (.bool false))), none⟩]
/- law.go:200 -/
def law12_JournalApart_r1 (F : Nat → Nat) : List AOper := [
  ⟨some 25, .val (.mov (.t 0)), none⟩,
  ⟨some 26, .call (F 109) [(.t 25)], none⟩,
  ⟨some 11, .alloc 2 [.nil 1, .nil 2], none⟩,
  ⟨none, .stA true 2 (.t 11) (.t 26), none⟩]
/- law.go:201 -/
def law12_JournalApart_r2 : List AOper := [
  ⟨some 27, .val (.mov (.t 3)), none⟩,
  ⟨some 28, .val (.lenT (.t 27)), none⟩,
  ⟨some 29, .val (.bin .neq false (.t 28) (.k (.int .i64 32))), none⟩,
  ⟨some 30, .val (.mov (.t 29)), none⟩,
  ⟨some 31, .val (.mov (.t 4)), some (30, false)⟩,
  ⟨some 32, .val (.lenT (.t 31)), some (30, false)⟩,
  ⟨some 33, .val (.bin .neq false (.t 32) (.k (.int .i64 32))), some (30, false)⟩,
  ⟨some 34, .val (.por (.t 30) (.t 33)), none⟩,
  ⟨some 35, .val (.mov (.t 34)), none⟩,
  ⟨some 36, .val (.field 0 (.t 11)), some (35, false)⟩,
  ⟨some 37, .val (.load1 (.t 36)), some (35, false)⟩,
  ⟨some 38, .val (.lenS (.t 37)), some (35, false)⟩,
  ⟨some 39, .val (.bin .neq false (.t 38) (.k (.int .i64 35))), some (35, false)⟩,
  ⟨some 40, .val (.por (.t 35) (.t 39)), none⟩]
/- law.go:202 -/
def law12_JournalApart_r3 (F : Nat → Nat) : List AOper := [
  ⟨some 41, .val (.mov (.t 3)), none⟩,
  ⟨some 42, .val (.lenT (.t 41)), none⟩,
  ⟨some 43, .val (.bin .neq false (.t 42) (.k (.int .i64 32))), none⟩,
  ⟨some 44, .val (.mov (.t 43)), none⟩,
  ⟨some 45, .val (.mov (.t 4)), some (44, false)⟩,
  ⟨some 46, .val (.lenT (.t 45)), some (44, false)⟩,
  ⟨some 47, .val (.bin .neq false (.t 46) (.k (.int .i64 32))), some (44, false)⟩,
  ⟨some 48, .val (.por (.t 44) (.t 47)), none⟩,
  ⟨some 49, .val (.mov (.t 48)), none⟩,
  ⟨some 50, .call (F 96) [], some (49, true)⟩,
  ⟨some 51, .val (.pand (.t 49) (.t 50)), none⟩,
  ⟨some 10, .val (.mov (.t 51)), none⟩]
/- law.go:204 -/
def law12_JournalApart_r4 : List AOper := [
  ⟨some 52, .val (.mov (.t 1)), none⟩,
  ⟨some 53, .val (.bin .rem true (.t 52) (.k (.int .u8 16))), none⟩,
  ⟨some 54, .val (.conv true .i64 (.t 53)), none⟩,
  ⟨some 55, .val (.bin .add true (.k (.int .i64 1)) (.t 54)), none⟩,
  ⟨some 56, .val (.mov (.t 2)), none⟩,
  ⟨some 57, .val (.bin .rem true (.t 56) (.k (.int .u8 16))), none⟩,
  ⟨some 58, .val (.conv true .i64 (.t 57)), none⟩,
  ⟨some 59, .val (.bin .add true (.k (.int .i64 1)) (.t 58)), none⟩,
  ⟨some 12, .val (.mov (.t 55)), none⟩,
  ⟨some 13, .val (.mov (.t 59)), none⟩]
/- law.go:205 -/
def law12_JournalApart_r5 (F : Nat → Nat) : List AOper := [
  ⟨some 61, .val (.loadA 2 (.t 11)), none⟩,
  ⟨some 62, .val (.mov (.t 12)), none⟩,
  ⟨some 63, .val (.mov (.t 3)), none⟩,
  ⟨some 64, .call (F 98) [(.t 61), (.t 62), (.t 63)], none⟩,
  ⟨some 60, .val (.mov (.t 64)), none⟩,
  ⟨some 65, .val (.extr 0 (.t 60)), none⟩,
  ⟨some 66, .val (.extr 1 (.t 60)), none⟩,
  ⟨some 14, .alloc 2 [.nil 1, .nil 2], none⟩,
  ⟨none, .stA true 2 (.t 14) (.t 65), none⟩,
  ⟨some 15, .val (.mov (.t 66)), none⟩]
/- law.go:206 -/
def law12_JournalApart_r6 (F : Nat → Nat) : List AOper := [
  ⟨some 68, .val (.loadA 2 (.t 14)), none⟩,
  ⟨some 69, .val (.mov (.t 13)), none⟩,
  ⟨some 70, .val (.mov (.t 4)), none⟩,
  ⟨some 71, .call (F 98) [(.t 68), (.t 69), (.t 70)], none⟩,
  ⟨some 67, .val (.mov (.t 71)), none⟩,
  ⟨some 72, .val (.extr 0 (.t 67)), none⟩,
  ⟨some 73, .val (.extr 1 (.t 67)), none⟩,
  ⟨none, .stA true 2 (.t 14) (.t 72), none⟩,
  ⟨some 16, .val (.mov (.t 73)), none⟩]
/- law.go:207 -/
def law12_JournalApart_r7 (F : Nat → Nat) : List AOper := [
  ⟨some 75, .val (.loadA 2 (.t 11)), none⟩,
  ⟨some 76, .val (.mov (.t 13)), none⟩,
  ⟨some 77, .val (.mov (.t 4)), none⟩,
  ⟨some 78, .call (F 98) [(.t 75), (.t 76), (.t 77)], none⟩,
  ⟨some 74, .val (.mov (.t 78)), none⟩,
  ⟨some 79, .val (.extr 0 (.t 74)), none⟩,
  ⟨some 80, .val (.extr 1 (.t 74)), none⟩,
  ⟨some 17, .alloc 2 [.nil 1, .nil 2], none⟩,
  ⟨none, .stA true 2 (.t 17) (.t 79), none⟩,
  ⟨some 18, .val (.mov (.t 80)), none⟩]
/- law.go:208 -/
def law12_JournalApart_r8 (F : Nat → Nat) : List AOper := [
  ⟨some 82, .val (.loadA 2 (.t 17)), none⟩,
  ⟨some 83, .val (.mov (.t 12)), none⟩,
  ⟨some 84, .val (.mov (.t 3)), none⟩,
  ⟨some 85, .call (F 98) [(.t 82), (.t 83), (.t 84)], none⟩,
  ⟨some 81, .val (.mov (.t 85)), none⟩,
  ⟨some 86, .val (.extr 0 (.t 81)), none⟩,
  ⟨some 87, .val (.extr 1 (.t 81)), none⟩,
  ⟨none, .stA true 2 (.t 17) (.t 86), none⟩,
  ⟨some 19, .val (.mov (.t 87)), none⟩]
/- law.go:209 -/
def law12_JournalApart_r9 : List AOper := [
  ⟨some 88, .val (.mov (.t 15)), none⟩,
  ⟨some 89, .val (.bin .neq false (.t 88) (.k (.int .i64 0))), none⟩,
  ⟨some 90, .val (.mov (.t 89)), none⟩,
  ⟨some 91, .val (.mov (.t 16)), some (90, false)⟩,
  ⟨some 92, .val (.bin .neq false (.t 91) (.k (.int .i64 0))), some (90, false)⟩,
  ⟨some 93, .val (.por (.t 90) (.t 92)), none⟩,
  ⟨some 94, .val (.mov (.t 93)), none⟩,
  ⟨some 95, .val (.mov (.t 18)), some (94, false)⟩,
  ⟨some 96, .val (.bin .neq false (.t 95) (.k (.int .i64 0))), some (94, false)⟩,
  ⟨some 97, .val (.por (.t 94) (.t 96)), none⟩,
  ⟨some 98, .val (.mov (.t 97)), none⟩,
  ⟨some 99, .val (.mov (.t 19)), some (98, false)⟩,
  ⟨some 100, .val (.bin .neq false (.t 99) (.k (.int .i64 0))), some (98, false)⟩,
  ⟨some 101, .val (.por (.t 98) (.t 100)), none⟩]
/- law.go:210 -/
def law12_JournalApart_r10 : List AOper := [
  ⟨some 10, .val (.mov (.k (.bool false))), none⟩]
/- law.go:212 -/
def law12_JournalApart_r11 : List AOper := [
  ⟨some 20, .val (.mov (.k (.int .i64 1))), none⟩]
/- law.go:212 -/
def law12_JournalApart_r12 : List AOper := [
  ⟨some 102, .val (.mov (.t 20)), none⟩,
  ⟨some 103, .val (.bin .leq false (.t 102) (.k (.int .i64 16))), none⟩]
/- law.go:213 -/
def law12_JournalApart_r14 (F : Nat → Nat) : List AOper := [
  ⟨some 107, .val (.loadA 2 (.t 14)), none⟩,
  ⟨some 108, .val (.mov (.t 20)), none⟩,
  ⟨some 109, .call (F 99) [(.t 107), (.t 108)], none⟩,
  ⟨some 106, .val (.mov (.t 109)), none⟩,
  ⟨some 110, .val (.extr 0 (.t 106)), none⟩,
  ⟨some 111, .val (.extr 1 (.t 106)), none⟩,
  ⟨some 21, .val (.mov (.t 110)), none⟩,
  ⟨some 22, .val (.mov (.t 111)), none⟩]
/- law.go:214 -/
def law12_JournalApart_r15 (F : Nat → Nat) : List AOper := [
  ⟨some 113, .val (.loadA 2 (.t 17)), none⟩,
  ⟨some 114, .val (.mov (.t 20)), none⟩,
  ⟨some 115, .call (F 99) [(.t 113), (.t 114)], none⟩,
  ⟨some 112, .val (.mov (.t 115)), none⟩,
  ⟨some 116, .val (.extr 0 (.t 112)), none⟩,
  ⟨some 117, .val (.extr 1 (.t 112)), none⟩,
  ⟨some 23, .val (.mov (.t 116)), none⟩,
  ⟨some 24, .val (.mov (.t 117)), none⟩]
/- law.go:215 -/
def law12_JournalApart_r16 : List AOper := [
  ⟨some 118, .val (.mov (.t 22)), none⟩,
  ⟨some 119, .val (.bin .neq false (.t 118) (.k (.int .i64 0))), none⟩,
  ⟨some 120, .val (.mov (.t 119)), none⟩,
  ⟨some 121, .val (.mov (.t 24)), some (120, false)⟩,
  ⟨some 122, .val (.bin .neq false (.t 121) (.k (.int .i64 0))), some (120, false)⟩,
  ⟨some 123, .val (.por (.t 120) (.t 122)), none⟩,
  ⟨some 124, .val (.mov (.t 123)), none⟩,
  ⟨some 125, .val (.mov (.t 12)), some (124, false)⟩,
  ⟨some 126, .val (.mov (.t 13)), some (124, false)⟩,
  ⟨some 127, .val (.bin .neq false (.t 125) (.t 126)), some (124, false)⟩,
  ⟨some 128, .val (.mov (.t 127)), some (124, false)⟩,
  ⟨some 129, .val (.mov (.t 21)), some (128, true)⟩,
  ⟨some 130, .val (.mov (.t 23)), some (128, true)⟩,
  ⟨some 131, .val (.bin .neq false (.t 129) (.t 130)), some (128, true)⟩,
  ⟨some 132, .val (.pand (.t 128) (.t 131)), some (124, false)⟩,
  ⟨some 133, .val (.por (.t 124) (.t 132)), none⟩,
  ⟨some 134, .val (.mov (.t 133)), none⟩,
  ⟨some 135, .val (.mov (.t 12)), some (134, false)⟩,
  ⟨some 136, .val (.mov (.t 13)), some (134, false)⟩,
  ⟨some 137, .val (.bin .eql false (.t 135) (.t 136)), some (134, false)⟩,
  ⟨some 138, .val (.mov (.t 137)), some (134, false)⟩,
  ⟨some 139, .val (.mov (.t 20)), some (138, true)⟩,
  ⟨some 140, .val (.mov (.t 12)), some (138, true)⟩,
  ⟨some 141, .val (.bin .eql false (.t 139) (.t 140)), some (138, true)⟩,
  ⟨some 142, .val (.pand (.t 138) (.t 141)), some (134, false)⟩,
  ⟨some 143, .val (.mov (.t 142)), some (134, false)⟩,
  ⟨some 144, .val (.mov (.t 21)), some (143, true)⟩,
  ⟨some 145, .val (.mov (.t 4)), some (143, true)⟩,
  ⟨some 146, .val (.bin .neq false (.t 144) (.t 145)), some (143, true)⟩,
  ⟨some 147, .val (.mov (.t 146)), some (143, true)⟩,
  ⟨some 148, .val (.mov (.t 23)), some (147, false)⟩,
  ⟨some 149, .val (.mov (.t 3)), some (147, false)⟩,
  ⟨some 150, .val (.bin .neq false (.t 148) (.t 149)), some (147, false)⟩,
  ⟨some 151, .val (.por (.t 147) (.t 150)), some (143, true)⟩,
  ⟨some 152, .val (.pand (.t 143) (.t 151)), some (134, false)⟩,
  ⟨some 153, .val (.por (.t 134) (.t 152)), none⟩]
/- law.go:216 -/
def law12_JournalApart_r17 : List AOper := [
  ⟨some 10, .val (.mov (.k (.bool false))), none⟩]
/- law.go:212 -/
def law12_JournalApart_r13 : List AOper := [
  ⟨some 104, .val (.mov (.t 20)), none⟩,
  ⟨some 105, .val (.bin .add true (.t 104) (.k (.int .i64 1))), none⟩,
  ⟨some 20, .val (.mov (.t 105)), none⟩]
/- law.go:219 -/
def law12_JournalApart_r18 (F : Nat → Nat) : List AOper := [
  ⟨some 154, .call (F 96) [], none⟩,
  ⟨some 10, .val (.mov (.t 154)), none⟩]
def law12_JournalApart_c (F : Nat → Nat) : ACode :=
  (.seq
    (.reg law12_JournalApart_r0 (some ([0, 1, 2, 3, 4], [])))
    (.seq
      (.reg (law12_JournalApart_r1 F) (some ([1, 2, 3, 4, 11], [11])))
      (.seq
        (.seq
          (.reg law12_JournalApart_r2 (some ([1, 2, 3, 4, 11, 40], [11])))
          (.cond (.t 40)
            (.seq
              (.reg (law12_JournalApart_r3 F) (some ([10], [])))
              .ret)
            .skip))
        (.seq
          (.reg law12_JournalApart_r4 (some ([3, 4, 11, 12, 13], [11])))
          (.seq
            (.reg (law12_JournalApart_r5 F) (some ([3, 4, 11, 12, 13, 14, 15], [11, 14])))
            (.seq
              (.reg (law12_JournalApart_r6 F) (some ([3, 4, 11, 12, 13, 14, 15, 16], [11, 14])))
              (.seq
                (.reg (law12_JournalApart_r7 F) (some ([3, 4, 12, 13, 14, 15, 16, 17, 18], [14, 17])))
                (.seq
                  (.reg (law12_JournalApart_r8 F) (some ([3, 4, 12, 13, 14, 15, 16, 17, 18, 19], [14, 17])))
                  (.seq
                    (.seq
                      (.reg law12_JournalApart_r9 (some ([3, 4, 12, 13, 14, 17, 101], [14, 17])))
                      (.cond (.t 101)
                        (.seq
                          (.reg law12_JournalApart_r10 (some ([10], [])))
                          .ret)
                        .skip))
                    (.seq
                      (.seq
                        (.reg law12_JournalApart_r11 (some ([3, 4, 12, 13, 14, 17, 20], [14, 17])))
                        (.block 0
                          (.loop
                            (.seq
                              (.seq
                                (.reg law12_JournalApart_r12 (some ([3, 4, 12, 13, 14, 17, 20, 103], [14, 17])))
                                (.cond (.t 103)
                                  .skip
                                  (.exit 0)))
                              (.seq
                                (.block 1
                                  (.seq
                                    (.reg (law12_JournalApart_r14 F) (some ([3, 4, 12, 13, 14, 17, 20, 21, 22], [14, 17])))
                                    (.seq
                                      (.reg (law12_JournalApart_r15 F) (some ([3, 4, 12, 13, 14, 17, 20, 21, 22, 23, 24], [14, 17])))
                                      (.seq
                                        (.reg law12_JournalApart_r16 (some ([3, 4, 12, 13, 14, 17, 20, 153], [14, 17])))
                                        (.cond (.t 153)
                                          (.seq
                                            (.reg law12_JournalApart_r17 (some ([10], [])))
                                            .ret)
                                          .skip)))))
                                (.reg law12_JournalApart_r13 (some ([3, 4, 12, 13, 14, 17, 20], [14, 17]))))))))
                      (.seq
                        (.reg (law12_JournalApart_r18 F) (some ([10], [])))
                        .ret)))))))))))
def law12_JournalApart_k (P : Program) (F : Nat → Nat) : Prop := chkFn P (F 114) 5 (law12_JournalApart_c F) [10] = true

/- lockkeeper/lockkeeperlaw12.JournalWhole : names 0 pages, 1 page, 2 data, 3 most, 4 keep, 5 again, 6 keeps, 7 pages, 8 page, 9 data, 10 most, 11 keep, 12 again, 13 keeps, 15 p, 16 was, 17 l, 18 e, 19 n, 20 d, 21 one, 22 two, 23 s, 24 f uns [] -/
/- law.go:100 -/
def law12_JournalWhole_r0 : List AOper := [
  ⟨some 14, .val (.mov (.k (.bool false))), none⟩]
/- law.go:101 -/
def law12_JournalWhole_r1 : List AOper := [
  ⟨some 25, .val (.mov (.t 2)), none⟩,
  ⟨some 26, .val (.lenT (.t 25)), none⟩,
  ⟨some 27, .val (.bin .neq false (.t 26) (.k (.int .i64 32))), none⟩,
  ⟨some 28, .val (.mov (.t 27)), none⟩,
  ⟨some 29, .val (.mov (.t 4)), some (28, false)⟩,
  ⟨some 30, .val (.lenS (.t 29)), some (28, false)⟩,
  ⟨some 31, .val (.bin .gtr false (.t 30) (.k (.int .i64 60))), some (28, false)⟩,
  ⟨some 32, .val (.por (.t 28) (.t 31)), none⟩,
  ⟨some 33, .val (.mov (.t 32)), none⟩,
  ⟨some 34, .val (.mov (.t 6)), some (33, false)⟩,
  ⟨some 35, .val (.lenS (.t 34)), some (33, false)⟩,
  ⟨some 36, .val (.bin .gtr false (.t 35) (.k (.int .i64 60))), some (33, false)⟩,
  ⟨some 37, .val (.por (.t 33) (.t 36)), none⟩]
/- law.go:102 -/
def law12_JournalWhole_r2 (F : Nat → Nat) : List AOper := [
  ⟨some 38, .call (F 96) [], none⟩,
  ⟨some 14, .val (.mov (.t 38)), none⟩]
/- law.go:104 -/
def law12_JournalWhole_r3 : List AOper := [
  ⟨some 39, .val (.mov (.t 1)), none⟩,
  ⟨some 40, .val (.bin .rem true (.t 39) (.k (.int .u8 16))), none⟩,
  ⟨some 41, .val (.conv true .i64 (.t 40)), none⟩,
  ⟨some 42, .val (.bin .add true (.k (.int .i64 1)) (.t 41)), none⟩,
  ⟨some 15, .val (.mov (.t 42)), none⟩]
/- law.go:105 -/
def law12_JournalWhole_r4 (F : Nat → Nat) : List AOper := [
  ⟨some 43, .val (.mov (.t 0)), none⟩,
  ⟨some 44, .call (F 109) [(.t 43)], none⟩,
  ⟨some 16, .alloc 2 [.nil 1, .nil 2], none⟩,
  ⟨none, .stA true 2 (.t 16) (.t 44), none⟩]
/- law.go:106 -/
def law12_JournalWhole_r5 : List AOper := [
  ⟨some 45, .val (.field 0 (.t 16)), none⟩,
  ⟨some 46, .val (.load1 (.t 45)), none⟩,
  ⟨some 47, .val (.lenS (.t 46)), none⟩,
  ⟨some 48, .val (.bin .neq false (.t 47) (.k (.int .i64 35))), none⟩]
/- law.go:107 -/
def law12_JournalWhole_r6 : List AOper := [
  ⟨some 14, .val (.mov (.k (.bool false))), none⟩]
/- law.go:109 -/
def law12_JournalWhole_r7 (F : Nat → Nat) : List AOper := [
  ⟨some 50, .val (.loadA 2 (.t 16)), none⟩,
  ⟨some 51, .val (.mov (.t 15)), none⟩,
  ⟨some 52, .val (.mov (.t 2)), none⟩,
  ⟨some 53, .call (F 97) [(.t 50), (.t 51), (.t 52)], none⟩,
  ⟨some 49, .val (.mov (.t 53)), none⟩,
  ⟨some 54, .val (.extr 0 (.t 49)), none⟩,
  ⟨some 55, .val (.extr 1 (.t 49)), none⟩,
  ⟨some 17, .val (.mov (.t 54)), none⟩,
  ⟨some 18, .val (.mov (.t 55)), none⟩]
/- law.go:110 -/
def law12_JournalWhole_r8 : List AOper := [
  ⟨some 56, .val (.mov (.t 18)), none⟩,
  ⟨some 57, .val (.bin .neq false (.t 56) (.k (.int .i64 0))), none⟩]
/- law.go:111 -/
def law12_JournalWhole_r9 : List AOper := [
  ⟨some 14, .val (.mov (.k (.bool false))), none⟩]
/- law.go:113 -/
def law12_JournalWhole_r10 : List AOper := [
  ⟨some 58, .val (.mov (.t 3)), none⟩,
  ⟨some 59, .val (.bin .rem true (.t 58) (.k (.int .u8 12))), none⟩,
  ⟨some 60, .val (.conv true .i64 (.t 59)), none⟩,
  ⟨some 19, .val (.mov (.t 60)), none⟩]
/- law.go:114 -/
def law12_JournalWhole_r11 (F : Nat → Nat) : List AOper := [
  ⟨some 61, .val (.loadA 2 (.t 16)), none⟩,
  ⟨some 62, .val (.mov (.t 17)), none⟩,
  ⟨some 63, .val (.mov (.t 19)), none⟩,
  ⟨some 64, .call (F 111) [(.t 61), (.t 62), (.t 63)], none⟩,
  ⟨some 65, .val (.mov (.t 4)), none⟩,
  ⟨some 66, .call (F 33) [(.t 64), (.t 65)], none⟩,
  ⟨some 20, .alloc 2 [.nil 1, .nil 2], none⟩,
  ⟨none, .stA true 2 (.t 20) (.t 66), none⟩]
/- law.go:115 -/
def law12_JournalWhole_r12 (F : Nat → Nat) : List AOper := [
  ⟨some 67, .val (.loadA 2 (.t 20)), none⟩,
  ⟨some 68, .call (F 110) [(.t 67)], none⟩,
  ⟨some 21, .alloc 2 [.nil 1, .nil 2], none⟩,
  ⟨none, .stA true 2 (.t 21) (.t 68), none⟩]
/- law.go:116 DRAWS -/
def law12_JournalWhole_r13 (F : Nat → Nat) : List AOper := [
  ⟨some 69, .val (.loadA 2 (.t 21)), none⟩,
  ⟨some 70, .val (.loadA 2 (.t 16)), none⟩,
  ⟨some 71, .val (.mov (.t 15)), none⟩,
  ⟨some 72, .val (.mov (.t 2)), none⟩,
  ⟨some 73, .call (F 115) [(.t 69), (.t 70), (.t 71), (.t 72)], none⟩,
  ⟨some 74, .val (.not (.t 73)), none⟩,
  ⟨some 75, .val (.mov (.t 74)), none⟩,
  ⟨some 76, .val (.loadA 2 (.t 21)), some (75, false)⟩,
  ⟨some 77, .call (F 110) [(.t 76)], some (75, false)⟩,
  ⟨some 78, .val (.loadA 2 (.t 21)), some (75, false)⟩,
  ⟨some 79, .call (F 38) [(.t 77), (.t 78)], some (75, false)⟩,
  ⟨some 80, .val (.not (.t 79)), some (75, false)⟩,
  ⟨some 81, .val (.por (.t 75) (.t 80)), none⟩]
/- law.go:117 -/
def law12_JournalWhole_r14 : List AOper := [
  ⟨some 14, .val (.mov (.k (.bool false))), none⟩]
/- law.go:119 DRAWS -/
def law12_JournalWhole_r15 (F : Nat → Nat) : List AOper := [
  ⟨some 82, .val (.loadA 2 (.t 20)), none⟩,
  ⟨some 83, .val (.loadA 2 (.t 20)), none⟩,
  ⟨some 84, .call (F 107) [(.t 83)], none⟩,
  ⟨some 85, .val (.mov (.t 5)), none⟩,
  ⟨some 86, .val (.bin .rem true (.t 85) (.k (.int .u8 6))), none⟩,
  ⟨some 87, .val (.conv true .i64 (.t 86)), none⟩,
  ⟨some 88, .call (F 111) [(.t 82), (.t 84), (.t 87)], none⟩,
  ⟨some 89, .val (.mov (.t 6)), none⟩,
  ⟨some 90, .call (F 33) [(.t 88), (.t 89)], none⟩,
  ⟨some 91, .call (F 110) [(.t 90)], none⟩,
  ⟨some 22, .alloc 2 [.nil 1, .nil 2], none⟩,
  ⟨none, .stA true 2 (.t 22) (.t 91), none⟩]
/- law.go:120 -/
def law12_JournalWhole_r16 (F : Nat → Nat) : List AOper := [
  ⟨some 92, .val (.loadA 2 (.t 22)), none⟩,
  ⟨some 93, .val (.loadA 2 (.t 16)), none⟩,
  ⟨some 94, .val (.mov (.t 15)), none⟩,
  ⟨some 95, .val (.mov (.t 2)), none⟩,
  ⟨some 96, .call (F 115) [(.t 92), (.t 93), (.t 94), (.t 95)], none⟩,
  ⟨some 97, .val (.not (.t 96)), none⟩]
/- law.go:121 -/
def law12_JournalWhole_r17 : List AOper := [
  ⟨some 14, .val (.mov (.k (.bool false))), none⟩]
/- law.go:123 -/
def law12_JournalWhole_r18 (F : Nat → Nat) : List AOper := [
  ⟨some 99, .val (.loadA 2 (.t 21)), none⟩,
  ⟨some 100, .val (.mov (.t 15)), none⟩,
  ⟨some 101, .call (F 99) [(.t 99), (.t 100)], none⟩,
  ⟨some 98, .val (.mov (.t 101)), none⟩,
  ⟨some 102, .val (.extr 0 (.t 98)), none⟩,
  ⟨some 103, .val (.extr 1 (.t 98)), none⟩,
  ⟨some 23, .val (.mov (.t 102)), none⟩,
  ⟨some 24, .val (.mov (.t 103)), none⟩]
/- law.go:124 -/
def law12_JournalWhole_r19 (F : Nat → Nat) : List AOper := [
  ⟨some 104, .val (.mov (.t 19)), none⟩,
  ⟨some 105, .val (.bin .lss false (.t 104) (.k (.int .i64 10))), none⟩,
  ⟨some 106, .val (.mov (.t 105)), none⟩,
  ⟨some 107, .val (.mov (.t 23)), some (106, false)⟩,
  ⟨some 108, .val (.mov (.t 2)), some (106, false)⟩,
  ⟨some 109, .val (.bin .eql false (.t 107) (.t 108)), some (106, false)⟩,
  ⟨some 110, .val (.por (.t 106) (.t 109)), none⟩,
  ⟨some 111, .val (.mov (.t 110)), none⟩,
  ⟨some 112, .val (.mov (.t 24)), some (111, true)⟩,
  ⟨some 113, .val (.bin .eql false (.t 112) (.k (.int .i64 0))), some (111, true)⟩,
  ⟨some 114, .val (.pand (.t 111) (.t 113)), none⟩,
  ⟨some 115, .val (.mov (.t 114)), none⟩,
  ⟨some 116, .call (F 96) [], some (115, true)⟩,
  ⟨some 117, .val (.pand (.t 115) (.t 116)), none⟩,
  ⟨some 14, .val (.mov (.t 117)), none⟩]
def law12_JournalWhole_c (F : Nat → Nat) : ACode :=
  (.seq
    (.reg law12_JournalWhole_r0 (some ([0, 1, 2, 3, 4, 5, 6], [])))
    (.seq
      (.seq
        (.reg law12_JournalWhole_r1 (some ([0, 1, 2, 3, 4, 5, 6, 37], [])))
        (.cond (.t 37)
          (.seq
            (.reg (law12_JournalWhole_r2 F) (some ([14], [])))
            .ret)
          .skip))
      (.seq
        (.reg law12_JournalWhole_r3 (some ([0, 2, 3, 4, 5, 6, 15], [])))
        (.seq
          (.reg (law12_JournalWhole_r4 F) (some ([2, 3, 4, 5, 6, 15, 16], [16])))
          (.seq
            (.seq
              (.reg law12_JournalWhole_r5 (some ([2, 3, 4, 5, 6, 15, 16, 48], [16])))
              (.cond (.t 48)
                (.seq
                  (.reg law12_JournalWhole_r6 (some ([14], [])))
                  .ret)
                .skip))
            (.seq
              (.reg (law12_JournalWhole_r7 F) (some ([2, 3, 4, 5, 6, 15, 16, 17, 18], [16])))
              (.seq
                (.seq
                  (.reg law12_JournalWhole_r8 (some ([2, 3, 4, 5, 6, 15, 16, 17, 57], [16])))
                  (.cond (.t 57)
                    (.seq
                      (.reg law12_JournalWhole_r9 (some ([14], [])))
                      .ret)
                    .skip))
                (.seq
                  (.reg law12_JournalWhole_r10 (some ([2, 4, 5, 6, 15, 16, 17, 19], [16])))
                  (.seq
                    (.reg (law12_JournalWhole_r11 F) (some ([2, 5, 6, 15, 16, 19, 20], [16, 20])))
                    (.seq
                      (.reg (law12_JournalWhole_r12 F) (some ([2, 5, 6, 15, 16, 19, 20, 21], [16, 20, 21])))
                      (.seq
                        (.seq
                          (.regD (law12_JournalWhole_r13 F) [(8, 9)] (some ([2, 5, 6, 15, 16, 19, 20, 21, 81], [16, 20, 21])))
                          (.cond (.t 81)
                            (.seq
                              (.reg law12_JournalWhole_r14 (some ([14], [])))
                              .ret)
                            .skip))
                        (.seq
                          (.regD (law12_JournalWhole_r15 F) [(0, 2), (2, 3), (2, 4), (2, 5), (2, 7), (6, 7), (0, 10), (1, 10), (2, 10), (3, 10), (4, 10), (5, 10), (6, 10), (7, 10), (8, 10), (9, 10)] (some ([2, 15, 16, 19, 21, 22], [16, 21, 22])))
                          (.seq
                            (.seq
                              (.reg (law12_JournalWhole_r16 F) (some ([2, 15, 19, 21, 97], [21])))
                              (.cond (.t 97)
                                (.seq
                                  (.reg law12_JournalWhole_r17 (some ([14], [])))
                                  .ret)
                                .skip))
                            (.seq
                              (.reg (law12_JournalWhole_r18 F) (some ([2, 19, 23, 24], [])))
                              (.seq
                                (.reg (law12_JournalWhole_r19 F) (some ([14], [])))
                                .ret)))))))))))))))
def law12_JournalWhole_k (P : Program) (F : Nat → Nat) : Prop := chkFn P (F 116) 7 (law12_JournalWhole_c F) [14] = true

/- lockkeeper/lockkeeperlaw12.awake : names 1 d, 2 _, 3 data, 4 l, 5 e, 6 c, 7 f, 8 s, 9 g, 10 cut, 11 t, 12 h uns [] -/
/- law.go:13 -/
def law12_awake_r0 : List AOper := [
  ⟨some 0, .val (.mov (.k (.bool false))), none⟩]
/- law.go:14 -/
def law12_awake_r1 (F : Nat → Nat) : List AOper := [
  ⟨some 14, .call (F 28) [(.k (.int .i64 35))], none⟩,
  ⟨some 13, .val (.mov (.t 14)), none⟩,
  ⟨some 15, .val (.extr 0 (.t 13)), none⟩,
  ⟨some 16, .val (.extr 1 (.t 13)), none⟩,
  ⟨some 1, .alloc 2 [.nil 1, .nil 2], none⟩,
  ⟨none, .stA true 2 (.t 1) (.t 15), none⟩,
  ⟨some 2, .val (.mov (.t 16)), none⟩]
/- law.go:15 -/
def law12_awake_r2 : List AOper := [
  ⟨some 3, .val (.mov (.k (.str [48, 49, 50, 51, 52, 53, 54, 55, 56, 57, 97, 98, 99, 100, 101, 102, 48, 49, 50, 51, 52, 53, 54, 55, 56, 57, 65, 66, 67, 68, 69, 70]))), none⟩]
/- law.go:16 -/
def law12_awake_r3 (F : Nat → Nat) : List AOper := [
  ⟨some 18, .val (.loadA 2 (.t 1)), none⟩,
  ⟨some 19, .val (.mov (.t 3)), none⟩,
  ⟨some 20, .call (F 97) [(.t 18), (.k (.int .i64 3)), (.t 19)], none⟩,
  ⟨some 17, .val (.mov (.t 20)), none⟩,
  ⟨some 21, .val (.extr 0 (.t 17)), none⟩,
  ⟨some 22, .val (.extr 1 (.t 17)), none⟩,
  ⟨some 4, .val (.mov (.t 21)), none⟩,
  ⟨some 5, .val (.mov (.t 22)), none⟩]
/- law.go:17 -/
def law12_awake_r4 (F : Nat → Nat) : List AOper := [
  ⟨some 24, .val (.loadA 2 (.t 1)), none⟩,
  ⟨some 25, .val (.mov (.t 3)), none⟩,
  ⟨some 26, .call (F 98) [(.t 24), (.k (.int .i64 3)), (.t 25)], none⟩,
  ⟨some 23, .val (.mov (.t 26)), none⟩,
  ⟨some 27, .val (.extr 0 (.t 23)), none⟩,
  ⟨some 28, .val (.extr 1 (.t 23)), none⟩,
  ⟨some 6, .alloc 2 [.nil 1, .nil 2], none⟩,
  ⟨none, .stA true 2 (.t 6) (.t 27), none⟩,
  ⟨some 7, .val (.mov (.t 28)), none⟩]
/- law.go:18 -/
def law12_awake_r5 (F : Nat → Nat) : List AOper := [
  ⟨some 30, .val (.loadA 2 (.t 6)), none⟩,
  ⟨some 31, .call (F 99) [(.t 30), (.k (.int .i64 3))], none⟩,
  ⟨some 29, .val (.mov (.t 31)), none⟩,
  ⟨some 32, .val (.extr 0 (.t 29)), none⟩,
  ⟨some 33, .val (.extr 1 (.t 29)), none⟩,
  ⟨some 8, .val (.mov (.t 32)), none⟩,
  ⟨some 9, .val (.mov (.t 33)), none⟩]
/- law.go:19 -/
def law12_awake_r6 (F : Nat → Nat) : List AOper := [
  ⟨some 34, .val (.loadA 2 (.t 1)), none⟩,
  ⟨some 35, .val (.mov (.t 4)), none⟩,
  ⟨some 36, .call (F 111) [(.t 34), (.t 35), (.k (.int .i64 5))], none⟩,
  ⟨some 37, .call (F 41) [(.t 36)], none⟩,
  ⟨some 10, .alloc 2 [.nil 1, .nil 2], none⟩,
  ⟨none, .stA true 2 (.t 10) (.t 37), none⟩]
/- law.go:20 -/
def law12_awake_r7 (F : Nat → Nat) : List AOper := [
  ⟨some 39, .val (.loadA 2 (.t 10)), none⟩,
  ⟨some 40, .call (F 110) [(.t 39)], none⟩,
  ⟨some 41, .call (F 99) [(.t 40), (.k (.int .i64 3))], none⟩,
  ⟨some 38, .val (.mov (.t 41)), none⟩,
  ⟨some 42, .val (.extr 0 (.t 38)), none⟩,
  ⟨some 43, .val (.extr 1 (.t 38)), none⟩,
  ⟨some 11, .val (.mov (.t 42)), none⟩,
  ⟨some 12, .val (.mov (.t 43)), none⟩]
/- law.go:21 -/
def law12_awake_r8 (F : Nat → Nat) : List AOper := [
  ⟨some 44, .val (.mov (.t 4)), none⟩,
  ⟨some 45, .val (.lenS (.t 44)), none⟩,
  ⟨some 46, .val (.bin .eql false (.t 45) (.k (.int .i64 10))), none⟩,
  ⟨some 47, .val (.mov (.t 46)), none⟩,
  ⟨some 48, .val (.mov (.t 5)), some (47, true)⟩,
  ⟨some 49, .val (.bin .eql false (.t 48) (.k (.int .i64 0))), some (47, true)⟩,
  ⟨some 50, .val (.pand (.t 47) (.t 49)), none⟩,
  ⟨some 51, .val (.mov (.t 50)), none⟩,
  ⟨some 52, .val (.mov (.t 7)), some (51, true)⟩,
  ⟨some 53, .val (.bin .eql false (.t 52) (.k (.int .i64 0))), some (51, true)⟩,
  ⟨some 54, .val (.pand (.t 51) (.t 53)), none⟩,
  ⟨some 55, .val (.mov (.t 54)), none⟩,
  ⟨some 56, .val (.mov (.t 8)), some (55, true)⟩,
  ⟨some 57, .val (.mov (.t 3)), some (55, true)⟩,
  ⟨some 58, .val (.bin .eql false (.t 56) (.t 57)), some (55, true)⟩,
  ⟨some 59, .val (.pand (.t 55) (.t 58)), none⟩,
  ⟨some 60, .val (.mov (.t 59)), none⟩,
  ⟨some 61, .val (.mov (.t 9)), some (60, true)⟩,
  ⟨some 62, .val (.bin .eql false (.t 61) (.k (.int .i64 0))), some (60, true)⟩,
  ⟨some 63, .val (.pand (.t 60) (.t 62)), none⟩,
  ⟨some 64, .val (.mov (.t 63)), none⟩,
  ⟨some 65, .val (.mov (.t 11)), some (64, true)⟩,
  ⟨some 66, .val (.mov (.t 3)), some (64, true)⟩,
  ⟨some 67, .val (.bin .eql false (.t 65) (.t 66)), some (64, true)⟩,
  ⟨some 68, .val (.pand (.t 64) (.t 67)), none⟩,
  ⟨some 69, .val (.mov (.t 68)), none⟩,
  ⟨some 70, .val (.mov (.t 12)), some (69, true)⟩,
  ⟨some 71, .val (.bin .eql false (.t 70) (.k (.int .i64 0))), some (69, true)⟩,
  ⟨some 72, .val (.pand (.t 69) (.t 71)), none⟩,
  ⟨some 73, .val (.mov (.t 72)), none⟩,
  ⟨some 74, .val (.loadA 2 (.t 1)), some (73, true)⟩,
  ⟨some 75, .call (F 107) [(.t 74)], some (73, true)⟩,
  ⟨some 76, .val (.lenS (.t 75)), some (73, true)⟩,
  ⟨some 77, .val (.bin .eql false (.t 76) (.k (.int .i64 0))), some (73, true)⟩,
  ⟨some 78, .val (.pand (.t 73) (.t 77)), none⟩,
  ⟨some 0, .val (.mov (.t 78)), none⟩]
def law12_awake_c (F : Nat → Nat) : ACode :=
  (.seq
    (.reg law12_awake_r0 (some ([], [])))
    (.seq
      (.reg (law12_awake_r1 F) (some ([1], [1])))
      (.seq
        (.reg law12_awake_r2 (some ([1, 3], [1])))
        (.seq
          (.reg (law12_awake_r3 F) (some ([1, 3, 4, 5], [1])))
          (.seq
            (.reg (law12_awake_r4 F) (some ([1, 3, 4, 5, 6, 7], [1, 6])))
            (.seq
              (.reg (law12_awake_r5 F) (some ([1, 3, 4, 5, 7, 8, 9], [1])))
              (.seq
                (.reg (law12_awake_r6 F) (some ([1, 3, 4, 5, 7, 8, 9, 10], [1, 10])))
                (.seq
                  (.reg (law12_awake_r7 F) (some ([1, 3, 4, 5, 7, 8, 9, 11, 12], [1])))
                  (.seq
                    (.reg (law12_awake_r8 F) (some ([0], [])))
                    .ret)))))))))
def law12_awake_k (P : Program) (F : Nat → Nat) : Prop := chkFn P (F 96) 0 (law12_awake_c F) [0] = true

/- lockkeeper/journal.Plan : names 0 d, 1 page, 2 data, 3 d, 4 page, 5 data, 8 first, 9 second, 10 l uns [] -/
/- journal.go:72 -/
def journal_Plan_r0 : List AOper := [
  ⟨some 3, .box 2 (.t 0), none⟩,
  ⟨some 6, .val (.mov (.k (.nil 3))), none⟩,
  ⟨some 7, .val (.mov (.k (.int .i64 0))), none⟩]
/- journal.go:73 -/
def journal_Plan_r1 (F : Nat → Nat) : List AOper := [
  ⟨some 11, .val (.loadA 2 (.t 3)), none⟩,
  ⟨some 12, .call (F 117) [(.t 11)], none⟩,
  ⟨some 13, .val (.not (.t 12)), none⟩,
  ⟨some 14, .val (.mov (.t 13)), none⟩,
  ⟨some 15, .val (.mov (.t 1)), some (14, false)⟩,
  ⟨some 16, .call (F 118) [(.t 15)], some (14, false)⟩,
  ⟨some 17, .val (.not (.t 16)), some (14, false)⟩,
  ⟨some 18, .val (.por (.t 14) (.t 17)), none⟩,
  ⟨some 19, .val (.mov (.t 18)), none⟩,
  ⟨some 20, .val (.mov (.t 2)), some (19, false)⟩,
  ⟨some 21, .val (.lenT (.t 20)), some (19, false)⟩,
  ⟨some 22, .val (.bin .neq false (.t 21) (.k (.int .i64 32))), some (19, false)⟩,
  ⟨some 23, .val (.por (.t 19) (.t 22)), none⟩]
/- journal.go:74 -/
def journal_Plan_r2 : List AOper := [
  ⟨some 6, .val (.mov (.k (.nil 3))), none⟩,
  ⟨some 7, .val (.mov (.k (.int .i64 1))), none⟩]
/- journal.go:76 DRAWS -/
def journal_Plan_r3 : List AOper := [
  ⟨some 24, .val (.mov (.t 2)), none⟩,
  ⟨some 25, .val (.slT (.t 24) none (some (.k (.int .i64 16)))), none⟩,
  ⟨some 26, .val (.mov (.t 2)), none⟩,
  ⟨some 27, .val (.slT (.t 26) (some (.k (.int .i64 16))) none), none⟩,
  ⟨some 8, .val (.mov (.t 25)), none⟩,
  ⟨some 9, .val (.mov (.t 27)), none⟩]
/- journal.go:77 -/
def journal_Plan_r4 (F : Nat → Nat) : List AOper := [
  ⟨some 28, .val (.mov (.t 8)), none⟩,
  ⟨some 29, .val (.mov (.t 9)), none⟩,
  ⟨some 30, .call (F 119) [(.k (.int .i64 1)), (.t 28), (.t 29)], none⟩,
  ⟨some 10, .val (.mov (.t 30)), none⟩]
/- journal.go:78 -/
def journal_Plan_r5 (F : Nat → Nat) : List AOper := [
  ⟨some 31, .val (.mov (.t 10)), none⟩,
  ⟨some 32, .val (.mov (.t 1)), none⟩,
  ⟨some 33, .call (F 120) [(.t 32)], none⟩,
  ⟨some 34, .call (F 121) [(.t 33)], none⟩,
  ⟨some 35, .app 3 32 (.t 31) (.t 34), none⟩,
  ⟨some 10, .val (.mov (.t 35)), none⟩]
/- journal.go:79 -/
def journal_Plan_r6 (F : Nat → Nat) : List AOper := [
  ⟨some 36, .val (.mov (.t 10)), none⟩,
  ⟨some 37, .val (.mov (.t 1)), none⟩,
  ⟨some 38, .call (F 122) [(.t 37)], none⟩,
  ⟨some 39, .val (.mov (.t 8)), none⟩,
  ⟨some 40, .val (.mov (.t 9)), none⟩,
  ⟨some 41, .call (F 119) [(.t 38), (.t 39), (.t 40)], none⟩,
  ⟨some 42, .app 3 32 (.t 36) (.t 41), none⟩,
  ⟨some 10, .val (.mov (.t 42)), none⟩]
/- journal.go:80 -/
def journal_Plan_r7 (F : Nat → Nat) : List AOper := [
  ⟨some 43, .val (.mov (.t 10)), none⟩,
  ⟨some 44, .call (F 121) [(.k (.str [0, 0, 0, 0, 0, 0, 0, 0, 0, 0, 0, 0, 0, 0, 0, 0]))], none⟩,
  ⟨some 45, .app 3 32 (.t 43) (.t 44), none⟩,
  ⟨some 10, .val (.mov (.t 45)), none⟩]
/- journal.go:81 -/
def journal_Plan_r8 : List AOper := [
  ⟨some 46, .val (.mov (.t 10)), none⟩,
  ⟨some 6, .val (.mov (.t 46)), none⟩,
  ⟨some 7, .val (.mov (.k (.int .i64 0))), none⟩]
def journal_Plan_c (F : Nat → Nat) : ACode :=
  (.seq
    (.reg journal_Plan_r0 (some ([1, 2, 3], [3, 35, 42, 45, 1030, 1034, 1041, 1044])))
    (.seq
      (.seq
        (.reg (journal_Plan_r1 F) (some ([1, 2, 23], [35, 42, 45, 1030, 1034, 1041, 1044])))
        (.cond (.t 23)
          (.seq
            (.reg journal_Plan_r2 (some ([6, 7], [35, 42, 45, 1030, 1034, 1041, 1044])))
            .ret)
          .skip))
      (.seq
        (.regD journal_Plan_r3 [] (some ([1, 8, 9], [35, 42, 45, 1030, 1034, 1041, 1044])))
        (.seq
          (.reg (journal_Plan_r4 F) (some ([1, 8, 9, 10], [35, 42, 45, 1030, 1034, 1041, 1044])))
          (.seq
            (.reg (journal_Plan_r5 F) (some ([1, 8, 9, 10], [35, 42, 45, 1030, 1034, 1041, 1044])))
            (.seq
              (.reg (journal_Plan_r6 F) (some ([10], [35, 42, 45, 1030, 1034, 1041, 1044])))
              (.seq
                (.reg (journal_Plan_r7 F) (some ([10], [35, 42, 45, 1030, 1034, 1041, 1044])))
                (.seq
                  (.reg journal_Plan_r8 (some ([6, 7], [35, 42, 45, 1030, 1034, 1041, 1044])))
                  .ret))))))))
def journal_Plan_k (P : Program) (F : Nat → Nat) : Prop := chkFn P (F 97) 3 (journal_Plan_c F) [6, 7] = true

/- lockkeeper/journal.Commit : names 0 d, 1 page, 2 data, 3 d, 4 page, 5 data, 8 l, 9 e uns [] -/
/- journal.go:120 -/
def journal_Commit_r0 : List AOper := [
  ⟨some 3, .box 2 (.t 0), none⟩,
  ⟨some 6, .alloc 2 [.nil 1, .nil 2], none⟩,
  ⟨some 7, .val (.mov (.k (.int .i64 0))), none⟩]
/- journal.go:121 -/
def journal_Commit_r1 (F : Nat → Nat) : List AOper := [
  ⟨some 11, .val (.loadA 2 (.t 3)), none⟩,
  ⟨some 12, .val (.mov (.t 1)), none⟩,
  ⟨some 13, .val (.mov (.t 2)), none⟩,
  ⟨some 14, .call (F 97) [(.t 11), (.t 12), (.t 13)], none⟩,
  ⟨some 10, .val (.mov (.t 14)), none⟩,
  ⟨some 15, .val (.extr 0 (.t 10)), none⟩,
  ⟨some 16, .val (.extr 1 (.t 10)), none⟩,
  ⟨some 8, .val (.mov (.t 15)), none⟩,
  ⟨some 9, .val (.mov (.t 16)), none⟩]
/- journal.go:122 -/
def journal_Commit_r2 : List AOper := [
  ⟨some 17, .val (.mov (.t 9)), none⟩,
  ⟨some 18, .val (.bin .neq false (.t 17) (.k (.int .i64 0))), none⟩]
/- journal.go:123 -/
def journal_Commit_r3 : List AOper := [
  ⟨some 19, .val (.loadA 2 (.t 3)), none⟩,
  ⟨some 20, .val (.mov (.t 9)), none⟩,
  ⟨none, .stA true 2 (.t 6) (.t 19), none⟩,
  ⟨some 7, .val (.mov (.t 20)), none⟩]
/- journal.go:125 -/
def journal_Commit_r4 (F : Nat → Nat) : List AOper := [
  ⟨some 21, .val (.loadA 2 (.t 3)), none⟩,
  ⟨some 22, .val (.mov (.t 8)), none⟩,
  ⟨some 23, .val (.mov (.t 8)), none⟩,
  ⟨some 24, .val (.lenS (.t 23)), none⟩,
  ⟨some 25, .call (F 111) [(.t 21), (.t 22), (.t 24)], none⟩,
  ⟨none, .stA true 2 (.t 6) (.t 25), none⟩,
  ⟨some 7, .val (.mov (.k (.int .i64 0))), none⟩]
def journal_Commit_c (F : Nat → Nat) : ACode :=
  (.seq
    (.reg journal_Commit_r0 (some ([1, 2, 3, 6], [3, 6])))
    (.seq
      (.reg (journal_Commit_r1 F) (some ([3, 6, 8, 9], [3, 6])))
      (.seq
        (.seq
          (.reg journal_Commit_r2 (some ([3, 6, 8, 9, 18], [3, 6])))
          (.cond (.t 18)
            (.seq
              (.reg journal_Commit_r3 (some ([6, 7], [6])))
              .ret)
            .skip))
        (.seq
          (.reg (journal_Commit_r4 F) (some ([6, 7], [6])))
          .ret))))
def journal_Commit_k (P : Program) (F : Nat → Nat) : Prop := chkFn P (F 98) 3 (journal_Commit_c F) [.loadA 2 (.t 6), 7] = true

/- lockkeeper/journal.Get : names 0 d, 1 page, 2 d, 3 page, 6 first, 7 _, 8 second, 9 _ uns [] -/
/- journal.go:135 -/
def journal_Get_r0 : List AOper := [
  ⟨some 2, .box 2 (.t 0), none⟩,
  ⟨some 4, .val (.mov (.k (.str []))), none⟩,
  ⟨some 5, .val (.mov (.k (.int .i64 0))), none⟩]
/- journal.go:136 -/
def journal_Get_r1 (F : Nat → Nat) : List AOper := [
  ⟨some 10, .val (.loadA 2 (.t 2)), none⟩,
  ⟨some 11, .call (F 117) [(.t 10)], none⟩,
  ⟨some 12, .val (.not (.t 11)), none⟩,
  ⟨some 13, .val (.mov (.t 12)), none⟩,
  ⟨some 14, .val (.mov (.t 1)), some (13, false)⟩,
  ⟨some 15, .call (F 118) [(.t 14)], some (13, false)⟩,
  ⟨some 16, .val (.not (.t 15)), some (13, false)⟩,
  ⟨some 17, .val (.por (.t 13) (.t 16)), none⟩]
/- journal.go:137 -/
def journal_Get_r2 : List AOper := [
  ⟨some 4, .val (.mov (.k (.str []))), none⟩,
  ⟨some 5, .val (.mov (.k (.int .i64 1))), none⟩]
/- journal.go:139 DRAWS -/
def journal_Get_r3 (F : Nat → Nat) : List AOper := [
  ⟨some 19, .val (.loadA 2 (.t 2)), none⟩,
  ⟨some 20, .val (.mov (.t 1)), none⟩,
  ⟨some 21, .call (F 122) [(.t 20)], none⟩,
  ⟨some 22, .call (F 37) [(.t 19), (.t 21)], none⟩,
  ⟨some 18, .val (.mov (.t 22)), none⟩,
  ⟨some 23, .val (.extr 0 (.t 18)), none⟩,
  ⟨some 24, .val (.extr 1 (.t 18)), none⟩,
  ⟨some 6, .val (.mov (.t 23)), none⟩,
  ⟨some 7, .val (.mov (.t 24)), none⟩]
/- journal.go:140 DRAWS -/
def journal_Get_r4 (F : Nat → Nat) : List AOper := [
  ⟨some 26, .val (.loadA 2 (.t 2)), none⟩,
  ⟨some 27, .val (.mov (.t 1)), none⟩,
  ⟨some 28, .call (F 122) [(.t 27)], none⟩,
  ⟨some 29, .val (.bin .add true (.t 28) (.k (.int .i64 1))), none⟩,
  ⟨some 30, .call (F 37) [(.t 26), (.t 29)], none⟩,
  ⟨some 25, .val (.mov (.t 30)), none⟩,
  ⟨some 31, .val (.extr 0 (.t 25)), none⟩,
  ⟨some 32, .val (.extr 1 (.t 25)), none⟩,
  ⟨some 8, .val (.mov (.t 31)), none⟩,
  ⟨some 9, .val (.mov (.t 32)), none⟩]
/- journal.go:141 -/
def journal_Get_r5 : List AOper := [
  ⟨some 33, .val (.mov (.t 6)), none⟩,
  ⟨some 34, .val (.mov (.t 8)), none⟩,
  ⟨some 35, .val (.bin .add false (.t 33) (.t 34)), none⟩,
  ⟨some 4, .val (.mov (.t 35)), none⟩,
  ⟨some 5, .val (.mov (.k (.int .i64 0))), none⟩]
def journal_Get_c (F : Nat → Nat) : ACode :=
  (.seq
    (.reg journal_Get_r0 (some ([1, 2], [2])))
    (.seq
      (.seq
        (.reg (journal_Get_r1 F) (some ([1, 2, 17], [2])))
        (.cond (.t 17)
          (.seq
            (.reg journal_Get_r2 (some ([4, 5], [])))
            .ret)
          .skip))
      (.seq
        (.regD (journal_Get_r3 F) [(0, 2)] (some ([1, 2, 6], [2])))
        (.seq
          (.regD (journal_Get_r4 F) [(0, 2)] (some ([6, 8], [])))
          (.seq
            (.reg journal_Get_r5 (some ([4, 5], [])))
            .ret)))))
def journal_Get_k (P : Program) (F : Nat → Nat) : Prop := chkFn P (F 99) 2 (journal_Get_c F) [4, 5] = true

/- lockkeeper/lockkeeperref12.May : names 0 d, 1 d uns [] -/
/- ref.go:16 -/
def ref12_May_r0 : List AOper := [
  ⟨some 1, .box 2 (.t 0), none⟩,
  ⟨some 2, .val (.mov (.k (.bool false))), none⟩]
/- ref.go:16 -/
def ref12_May_r1 (F : Nat → Nat) : List AOper := [
  ⟨some 3, .val (.loadA 2 (.t 1)), none⟩,
  ⟨some 4, .call (F 32) [(.t 3)], none⟩,
  ⟨some 5, .val (.mov (.t 4)), none⟩,
  ⟨some 6, .val (.field 0 (.t 1)), some (5, true)⟩,
  ⟨some 7, .val (.load1 (.t 6)), some (5, true)⟩,
  ⟨some 8, .val (.lenS (.t 7)), some (5, true)⟩,
  ⟨some 9, .val (.bin .gtr false (.t 8) (.k (.int .i64 34))), some (5, true)⟩,
  ⟨some 10, .val (.pand (.t 5) (.t 9)), none⟩,
  ⟨some 2, .val (.mov (.t 10)), none⟩]
def ref12_May_c (F : Nat → Nat) : ACode :=
  (.seq
    (.reg ref12_May_r0 (some ([1], [1])))
    (.seq
      (.reg (ref12_May_r1 F) (some ([2], [])))
      .ret))
def ref12_May_k (P : Program) (F : Nat → Nat) : Prop := chkFn P (F 100) 1 (ref12_May_c F) [2] = true

/- lockkeeper/lockkeeperref12.Get : names 0 d, 1 page, 2 d, 3 page uns [] -/
/- ref.go:70 -/
def ref12_Get_r0 : List AOper := [
  ⟨some 2, .box 2 (.t 0), none⟩,
  ⟨some 4, .val (.mov (.k (.str []))), none⟩]
/- ref.go:71 DRAWS -/
def ref12_Get_r1 (F : Nat → Nat) : List AOper := [
  ⟨some 5, .val (.loadA 2 (.t 2)), none⟩,
  ⟨some 6, .val (.mov (.t 1)), none⟩,
  ⟨some 7, .val (.bin .mul true (.k (.int .i64 2)) (.t 6)), none⟩,
  ⟨some 8, .val (.bin .add true (.t 7) (.k (.int .i64 1))), none⟩,
  ⟨some 9, .call (F 44) [(.t 5), (.t 8)], none⟩,
  ⟨some 10, .val (.loadA 2 (.t 2)), none⟩,
  ⟨some 11, .val (.mov (.t 1)), none⟩,
  ⟨some 12, .val (.bin .mul true (.k (.int .i64 2)) (.t 11)), none⟩,
  ⟨some 13, .val (.bin .add true (.t 12) (.k (.int .i64 2))), none⟩,
  ⟨some 14, .call (F 44) [(.t 10), (.t 13)], none⟩,
  ⟨some 15, .val (.bin .add false (.t 9) (.t 14)), none⟩,
  ⟨some 4, .val (.mov (.t 15)), none⟩]
def ref12_Get_c (F : Nat → Nat) : ACode :=
  (.seq
    (.reg ref12_Get_r0 (some ([1, 2], [2])))
    (.seq
      (.regD (ref12_Get_r1 F) [(4, 5), (4, 6), (4, 7), (4, 8)] (some ([4], [])))
      .ret))
def ref12_Get_k (P : Program) (F : Nat → Nat) : Prop := chkFn P (F 101) 2 (ref12_Get_c F) [4] = true

/- lockkeeper/lockkeeperref12.Plan : names 0 page, 1 data, 2 page, 3 data, 5 a, 6 b, 7 first uns [] -/
/- ref.go:30 -/
def ref12_Plan_r0 : List AOper := [
  ⟨some 4, .val (.mov (.k (.nil 3))), none⟩]
/- ref.go:31 DRAWS -/
def ref12_Plan_r1 : List AOper := [
  ⟨some 8, .val (.mov (.t 1)), none⟩,
  ⟨some 9, .val (.slT (.t 8) none (some (.k (.int .i64 16)))), none⟩,
  ⟨some 10, .val (.mov (.t 1)), none⟩,
  ⟨some 11, .val (.slT (.t 10) (some (.k (.int .i64 16))) none), none⟩,
  ⟨some 5, .val (.mov (.t 9)), none⟩,
  ⟨some 6, .val (.mov (.t 11)), none⟩]
/- ref.go:32 -/
def ref12_Plan_r2 : List AOper := [
  ⟨some 12, .val (.mov (.t 0)), none⟩,
  ⟨some 13, .val (.bin .mul true (.k (.int .i64 2)) (.t 12)), none⟩,
  ⟨some 14, .val (.bin .add true (.t 13) (.k (.int .i64 1))), none⟩,
  ⟨some 7, .val (.mov (.t 14)), none⟩]
/- ref.go:33 DRAWS -/
def ref12_Plan_r3 (F : Nat → Nat) : List AOper := [
  ⟨some 15, .val (.mov (.t 5)), none⟩,
  ⟨some 16, .call (F 123) [(.k (.int .i64 1)), (.t 15)], none⟩,
  ⟨some 17, .val (.mov (.t 6)), none⟩,
  ⟨some 18, .call (F 123) [(.k (.int .i64 2)), (.t 17)], none⟩,
  ⟨some 19, .val (.build 3 [.bool false, .int .i64 0, .str []] [(0, 1, (.k (.bool true)))]), none⟩,
  ⟨some 20, .val (.mov (.t 0)), none⟩,
  ⟨some 21, .val (.conv false .u8 (.t 20)), none⟩,
  ⟨some 22, .buildS 1 2 [.int .u8 0] [(0, (.k (.int .u8 74))), (1, (.t 21))], none⟩,
  ⟨some 23, .val (.b2s (.t 22)), none⟩,
  ⟨some 24, .call (F 124) [(.t 23)], none⟩,
  ⟨some 25, .call (F 123) [(.k (.int .i64 0)), (.t 24)], none⟩,
  ⟨some 26, .val (.build 3 [.bool false, .int .i64 0, .str []] [(0, 1, (.k (.bool true)))]), none⟩,
  ⟨some 27, .val (.mov (.t 7)), none⟩,
  ⟨some 28, .val (.mov (.t 5)), none⟩,
  ⟨some 29, .call (F 123) [(.t 27), (.t 28)], none⟩,
  ⟨some 30, .val (.mov (.t 7)), none⟩,
  ⟨some 31, .val (.bin .add true (.t 30) (.k (.int .i64 1))), none⟩,
  ⟨some 32, .val (.mov (.t 6)), none⟩,
  ⟨some 33, .call (F 123) [(.t 31), (.t 32)], none⟩,
  ⟨some 34, .val (.build 3 [.bool false, .int .i64 0, .str []] [(0, 1, (.k (.bool true)))]), none⟩,
  ⟨some 35, .call (F 124) [(.k (.str []))], none⟩,
  ⟨some 36, .call (F 123) [(.k (.int .i64 0)), (.t 35)], none⟩,
  ⟨some 37, .val (.build 3 [.bool false, .int .i64 0, .str []] [(0, 1, (.k (.bool true)))]), none⟩,
  ⟨some 38, .buildS 3 10 [.bool false, .int .i64 0, .str []] [(0, (.t 16)), (1, (.t 18)), (2, (.t 19)), (3, (.t 25)), (4, (.t 26)), (5, (.t 29)), (6, (.t 33)), (7, (.t 34)), (8, (.t 36)), (9, (.t 37))], none⟩,
  ⟨some 4, .val (.mov (.t 38)), none⟩]
def ref12_Plan_c (F : Nat → Nat) : ACode :=
  (.seq
    (.reg ref12_Plan_r0 (some ([0, 1], [22, 38])))
    (.seq
      (.regD ref12_Plan_r1 [] (some ([0, 5, 6], [22, 38])))
      (.seq
        (.reg ref12_Plan_r2 (some ([0, 5, 6, 7], [22, 38])))
        (.seq
          (.regD (ref12_Plan_r3 F) [(1, 2), (1, 4), (3, 4), (1, 5), (3, 5), (1, 6), (3, 6), (0, 7), (1, 7), (2, 7), (3, 7), (4, 7), (1, 8), (3, 8), (4, 9), (4, 10), (1, 11), (3, 11), (7, 11), (9, 11), (10, 11), (1, 12), (3, 12), (7, 12), (9, 12), (10, 12), (1, 13), (3, 13), (7, 13), (9, 13), (10, 13), (4, 14), (11, 14), (1, 15), (3, 15), (7, 15), (9, 15), (10, 15), (14, 15), (1, 16), (3, 16), (7, 16), (9, 16), (10, 16), (14, 16), (1, 17), (3, 17), (7, 17), (9, 17), (10, 17), (14, 17), (4, 18), (11, 18), (1, 19), (3, 19), (7, 19), (9, 19), (10, 19), (14, 19), (18, 19), (4, 20), (11, 20), (19, 20), (4, 21), (11, 21), (19, 21), (1, 22), (3, 22), (7, 22), (9, 22), (10, 22), (14, 22), (18, 22), (20, 22), (21, 22)] (some ([4], [22, 38])))
          .ret))))
def ref12_Plan_k (P : Program) (F : Nat → Nat) : Prop := chkFn P (F 102) 2 (ref12_Plan_c F) [4] = true

/- lockkeeper/lockkeeperref12.Same : names 0 a, 1 b, 2 a, 3 b, 5 i uns [] -/
/- ref.go:75 -/
def ref12_Same_r0 : List AOper := [
  ⟨some 4, .val (.mov (.k (.bool false))), none⟩]
/- ref.go:76 -/
def ref12_Same_r1 : List AOper := [
  ⟨some 6, .val (.mov (.t 0)), none⟩,
  ⟨some 7, .val (.lenS (.t 6)), none⟩,
  ⟨some 8, .val (.mov (.t 1)), none⟩,
  ⟨some 9, .val (.lenS (.t 8)), none⟩,
  ⟨some 10, .val (.bin .neq false (.t 7) (.t 9)), none⟩]
/- ref.go:77 -/
def ref12_Same_r2 : List AOper := [
  ⟨some 4, .val (.mov (.k (.bool false))), none⟩]
/- ref.go:79 -/
def ref12_Same_r3 : List AOper := [
  ⟨some 5, .val (.mov (.k (.int .i64 0))), none⟩]
/- ref.go:79 -/
def ref12_Same_r4 : List AOper := [
  ⟨some 11, .val (.mov (.t 5)), none⟩,
  ⟨some 12, .val (.mov (.t 0)), none⟩,
  ⟨some 13, .val (.lenS (.t 12)), none⟩,
  ⟨some 14, .val (.bin .lss false (.t 11) (.t 13)), none⟩]
/- ref.go:80 DRAWS -/
def ref12_Same_r6 : List AOper := [
  ⟨some 17, .val (.mov (.t 0)), none⟩,
  ⟨some 18, .val (.mov (.t 5)), none⟩,
  ⟨some 19, .val (.ixS 3 (.t 17) (.t 18)), none⟩,
  ⟨some 20, .val (.loadA 3 (.t 19)), none⟩,
  ⟨some 21, .val (.mov (.t 1)), none⟩,
  ⟨some 22, .val (.mov (.t 5)), none⟩,
  ⟨some 23, .val (.ixS 3 (.t 21) (.t 22)), none⟩,
  ⟨some 24, .val (.loadA 3 (.t 23)), none⟩,
  ⟨some 25, .val (.eqA true [1, 0, 2] (.t 20) (.t 24)), none⟩]
/- ref.go:81 -/
def ref12_Same_r7 : List AOper := [
  ⟨some 4, .val (.mov (.k (.bool false))), none⟩]
/- ref.go:79 -/
def ref12_Same_r5 : List AOper := [
  ⟨some 15, .val (.mov (.t 5)), none⟩,
  ⟨some 16, .val (.bin .add true (.t 15) (.k (.int .i64 1))), none⟩,
  ⟨some 5, .val (.mov (.t 16)), none⟩]
/- ref.go:84 -/
def ref12_Same_r8 : List AOper := [
  ⟨some 4, .val (.mov (.k (.bool true))), none⟩]
def ref12_Same_c : ACode :=
  (.seq
    (.reg ref12_Same_r0 (some ([0, 1], [])))
    (.seq
      (.seq
        (.reg ref12_Same_r1 (some ([0, 1, 10], [])))
        (.cond (.t 10)
          (.seq
            (.reg ref12_Same_r2 (some ([4], [])))
            .ret)
          .skip))
      (.seq
        (.seq
          (.reg ref12_Same_r3 (some ([0, 1, 5], [])))
          (.block 0
            (.loop
              (.seq
                (.seq
                  (.reg ref12_Same_r4 (some ([0, 1, 5, 14], [])))
                  (.cond (.t 14)
                    .skip
                    (.exit 0)))
                (.seq
                  (.block 1
                    (.seq
                      (.regD ref12_Same_r6 [] (some ([0, 1, 5, 25], [])))
                      (.cond (.t 25)
                        (.seq
                          (.reg ref12_Same_r7 (some ([4], [])))
                          .ret)
                        .skip)))
                  (.reg ref12_Same_r5 (some ([0, 1, 5], []))))))))
        (.seq
          (.reg ref12_Same_r8 (some ([4], [])))
          .ret))))
def ref12_Same_k (P : Program) (F : Nat → Nat) : Prop := chkFn P (F 104) 2 (ref12_Same_c) [4] = true

/- lockkeeper/lockkeeperlaw12.refs : names 0 l, 1 l, 3 out, 4 _, 5 o uns [] -/
/- law.go:25 -/
def law12_refs_r0 : List AOper := [
  ⟨some 2, .val (.mov (.k (.nil 3))), none⟩]
/- law.go:26 -/
def law12_refs_r1 : List AOper := [
  ⟨some 3, .val (.mov (.k (.nil 3))), none⟩]
/- law.go:27 -/
def law12_refs_r2 : List AOper := [
  ⟨some 6, .val (.mov (.t 0)), none⟩,
  ⟨some 7, .val (.lenS (.t 6)), none⟩,
  ⟨some 8, .val (.mov (.k (.int .i64 0))), none⟩]
/- law.go:27 -/
def law12_refs_r3 : List AOper := [
  ⟨some 9, .val (.bin .lss false (.t 8) (.t 7)), none⟩]
/- law.go:27 -/
def law12_refs_r4 : List AOper := [
  ⟨some 10, .val (.ixS 3 (.t 6) (.t 8)), none⟩,
  ⟨some 11, .val (.loadA 3 (.t 10)), none⟩,
  ⟨some 5, .alloc 3 [.bool false, .int .i64 0, .str []], none⟩,
  ⟨none, .stA true 3 (.t 5) (.t 11), none⟩]
/- law.go:28 -/
def law12_refs_r5 : List AOper := [
  ⟨some 12, .val (.mov (.t 3)), none⟩,
  ⟨some 13, .val (.loadA 3 (.t 5)), none⟩,
  ⟨some 14, .buildS 3 1 [.bool false, .int .i64 0, .str []] [(0, (.t 13))], none⟩,
  ⟨some 15, .app 3 32 (.t 12) (.t 14), none⟩,
  ⟨some 3, .val (.mov (.t 15)), none⟩]
/- law.go:27 -/
def law12_refs_r6 : List AOper := [
  ⟨some 16, .val (.bin .add true (.t 8) (.k (.int .i64 1))), none⟩,
  ⟨some 8, .val (.mov (.t 16)), none⟩]
/- law.go:30 -/
def law12_refs_r7 : List AOper := [
  ⟨some 17, .val (.mov (.t 3)), none⟩,
  ⟨some 2, .val (.mov (.t 17)), none⟩]
def law12_refs_c : ACode :=
  (.seq
    (.reg law12_refs_r0 (some ([0], [14, 15])))
    (.seq
      (.reg law12_refs_r1 (some ([0, 3], [14, 15])))
      (.seq
        (.seq
          (.reg law12_refs_r2 (some ([3, 6, 7, 8], [14, 15])))
          (.block 0
            (.loop
              (.seq
                (.reg law12_refs_r3 (some ([3, 6, 7, 8, 9], [14, 15])))
                (.seq
                  (.cond (.t 9)
                    .skip
                    (.exit 0))
                  (.seq
                    (.block 1
                      (.seq
                        (.reg law12_refs_r4 (some ([3, 5, 6, 7, 8], [5, 14, 15])))
                        (.reg law12_refs_r5 (some ([3, 6, 7, 8], [14, 15])))))
                    (.reg law12_refs_r6 (some ([3, 6, 7, 8], [14, 15])))))))))
        (.seq
          (.reg law12_refs_r7 (some ([2], [14, 15])))
          .ret))))
def law12_refs_k (P : Program) (F : Nat → Nat) : Prop := chkFn P (F 103) 1 (law12_refs_c) [2] = true

/- lockkeeper/lockkeeperref12.Run : names 0 d, 1 l, 2 most, 3 d, 4 l, 5 most, 7 i, 8 w, 9 c uns [] -/
/- ref.go:51 -/
def ref12_Run_r0 : List AOper := [
  ⟨some 3, .box 2 (.t 0), none⟩,
  ⟨some 6, .alloc 2 [.nil 1, .nil 2], none⟩]
/- ref.go:52 -/
def ref12_Run_r1 : List AOper := [
  ⟨some 7, .val (.mov (.k (.int .i64 0))), none⟩]
/- ref.go:52 -/
def ref12_Run_r2 : List AOper := [
  ⟨some 10, .val (.mov (.t 7)), none⟩,
  ⟨some 11, .val (.mov (.t 1)), none⟩,
  ⟨some 12, .val (.lenS (.t 11)), none⟩,
  ⟨some 13, .val (.bin .lss false (.t 10) (.t 12)), none⟩,
  ⟨some 14, .val (.mov (.t 13)), none⟩,
  ⟨some 15, .val (.mov (.t 7)), some (14, true)⟩,
  ⟨some 16, .val (.mov (.t 2)), some (14, true)⟩,
  ⟨some 17, .val (.bin .lss false (.t 15) (.t 16)), some (14, true)⟩,
  ⟨some 18, .val (.pand (.t 14) (.t 17)), none⟩]
/- ref.go:53 -/
def ref12_Run_r4 : List AOper := [
  ⟨some 21, .val (.mov (.t 1)), none⟩,
  ⟨some 22, .val (.mov (.t 7)), none⟩,
  ⟨some 23, .val (.ixS 3 (.t 21) (.t 22)), none⟩,
  ⟨some 24, .val (.field 1 (.t 23)), none⟩,
  ⟨some 25, .val (.loadA 2 (.t 24)), none⟩,
  ⟨some 8, .alloc 2 [.int .i64 0, .str []], none⟩,
  ⟨none, .stA true 2 (.t 8) (.t 25), none⟩]
/- ref.go:54 -/
def ref12_Run_r5 : List AOper := [
  ⟨some 26, .val (.mov (.t 1)), none⟩,
  ⟨some 27, .val (.mov (.t 7)), none⟩,
  ⟨some 28, .val (.ixS 3 (.t 26) (.t 27)), none⟩,
  ⟨some 29, .val (.field 0 (.t 28)), none⟩,
  ⟨some 30, .val (.load1 (.t 29)), none⟩]
/- ref.go:55 -/
def ref12_Run_r6 (F : Nat → Nat) : List AOper := [
  ⟨some 31, .val (.loadA 2 (.t 3)), none⟩,
  ⟨some 32, .call (F 32) [(.t 31)], none⟩]
/- ref.go:56 -/
def ref12_Run_r7 (F : Nat → Nat) : List AOper := [
  ⟨some 33, .val (.loadA 2 (.t 3)), none⟩,
  ⟨some 34, .call (F 42) [(.t 33)], none⟩,
  ⟨none, .stA true 2 (.t 3) (.t 34), none⟩]
/- ref.go:60 -/
def ref12_Run_r8 (F : Nat → Nat) : List AOper := [
  ⟨some 35, .val (.loadA 2 (.t 3)), none⟩,
  ⟨some 36, .call (F 32) [(.t 35)], none⟩,
  ⟨some 37, .val (.mov (.t 36)), none⟩,
  ⟨some 38, .val (.field 0 (.t 8)), some (37, true)⟩,
  ⟨some 39, .val (.load1 (.t 38)), some (37, true)⟩,
  ⟨some 40, .val (.bin .geq false (.t 39) (.k (.int .i64 0))), some (37, true)⟩,
  ⟨some 41, .val (.pand (.t 37) (.t 40)), none⟩,
  ⟨some 42, .val (.mov (.t 41)), none⟩,
  ⟨some 43, .val (.field 0 (.t 8)), some (42, true)⟩,
  ⟨some 44, .val (.load1 (.t 43)), some (42, true)⟩,
  ⟨some 45, .val (.field 0 (.t 3)), some (42, true)⟩,
  ⟨some 46, .val (.load1 (.t 45)), some (42, true)⟩,
  ⟨some 47, .val (.lenS (.t 46)), some (42, true)⟩,
  ⟨some 48, .val (.bin .lss false (.t 44) (.t 47)), some (42, true)⟩,
  ⟨some 49, .val (.pand (.t 42) (.t 48)), none⟩,
  ⟨some 50, .val (.mov (.t 49)), none⟩,
  ⟨some 51, .val (.field 1 (.t 8)), some (50, true)⟩,
  ⟨some 52, .val (.load1 (.t 51)), some (50, true)⟩,
  ⟨some 53, .val (.lenT (.t 52)), some (50, true)⟩,
  ⟨some 54, .val (.bin .eql false (.t 53) (.k (.int .i64 16))), some (50, true)⟩,
  ⟨some 55, .val (.pand (.t 50) (.t 54)), none⟩,
  ⟨some 56, .val (.mov (.t 55)), none⟩,
  ⟨some 57, .val (.field 1 (.t 3)), some (56, true)⟩,
  ⟨some 58, .val (.load1 (.t 57)), some (56, true)⟩,
  ⟨some 59, .val (.lenS (.t 58)), some (56, true)⟩,
  ⟨some 60, .val (.bin .lss false (.t 59) (.k (.int .i64 200))), some (56, true)⟩,
  ⟨some 61, .val (.pand (.t 56) (.t 60)), none⟩]
/- ref.go:61 -/
def ref12_Run_r9 : List AOper := [
  ⟨some 9, .val (.mov (.k (.nil 2))), none⟩]
/- ref.go:62 -/
def ref12_Run_r10 : List AOper := [
  ⟨some 62, .val (.mov (.t 9)), none⟩,
  ⟨some 63, .val (.field 1 (.t 3)), none⟩,
  ⟨some 64, .val (.load1 (.t 63)), none⟩,
  ⟨some 65, .app 2 24 (.t 62) (.t 64), none⟩,
  ⟨some 9, .val (.mov (.t 65)), none⟩]
/- ref.go:63 DRAWS -/
def ref12_Run_r11 : List AOper := [
  ⟨some 66, .val (.field 0 (.t 3)), none⟩,
  ⟨some 67, .val (.load1 (.t 66)), none⟩,
  ⟨some 68, .val (.mov (.t 9)), none⟩,
  ⟨some 69, .val (.loadA 2 (.t 8)), none⟩,
  ⟨some 70, .buildS 2 1 [.int .i64 0, .str []] [(0, (.t 69))], none⟩,
  ⟨some 71, .app 2 24 (.t 68) (.t 70), none⟩,
  ⟨some 72, .val (.build 2 [.nil 1, .nil 2] [(0, 1, (.t 67)), (1, 1, (.t 71))]), none⟩,
  ⟨none, .stA true 2 (.t 3) (.t 72), none⟩]
/- ref.go:52 -/
def ref12_Run_r3 : List AOper := [
  ⟨some 19, .val (.mov (.t 7)), none⟩,
  ⟨some 20, .val (.bin .add true (.t 19) (.k (.int .i64 1))), none⟩,
  ⟨some 7, .val (.mov (.t 20)), none⟩]
/- ref.go:66 -/
def ref12_Run_r12 : List AOper := [
  ⟨some 73, .val (.loadA 2 (.t 3)), none⟩,
  ⟨none, .stA true 2 (.t 6) (.t 73), none⟩]
def ref12_Run_c (F : Nat → Nat) : ACode :=
  (.seq
    (.reg ref12_Run_r0 (some ([1, 2, 3, 6], [3, 6, 65, 70, 71])))
    (.seq
      (.seq
        (.reg ref12_Run_r1 (some ([1, 2, 3, 6, 7], [3, 6, 65, 70, 71])))
        (.block 0
          (.loop
            (.seq
              (.seq
                (.reg ref12_Run_r2 (some ([1, 2, 3, 6, 7, 18], [3, 6, 65, 70, 71])))
                (.cond (.t 18)
                  .skip
                  (.exit 0)))
              (.seq
                (.block 1
                  (.seq
                    (.reg ref12_Run_r4 (some ([1, 2, 3, 6, 7, 8], [3, 6, 8, 65, 70, 71])))
                    (.seq
                      (.seq
                        (.reg ref12_Run_r5 (some ([1, 2, 3, 6, 7, 8, 30], [3, 6, 8, 65, 70, 71])))
                        (.cond (.t 30)
                          (.seq
                            (.seq
                              (.reg (ref12_Run_r6 F) (some ([1, 2, 3, 6, 7, 32], [3, 6, 65, 70, 71])))
                              (.cond (.t 32)
                                (.reg (ref12_Run_r7 F) (some ([1, 2, 3, 6, 7], [3, 6, 65, 70, 71])))
                                .skip))
                            (.exit 1))
                          .skip))
                      (.seq
                        (.reg (ref12_Run_r8 F) (some ([1, 2, 3, 6, 7, 8, 61], [3, 6, 8, 65, 70, 71])))
                        (.cond (.t 61)
                          (.seq
                            (.reg ref12_Run_r9 (some ([1, 2, 3, 6, 7, 8, 9], [3, 6, 8, 65, 70, 71])))
                            (.seq
                              (.reg ref12_Run_r10 (some ([1, 2, 3, 6, 7, 8, 9], [3, 6, 8, 65, 70, 71])))
                              (.regD ref12_Run_r11 [(0, 4), (1, 4), (2, 4), (0, 5), (1, 5)] (some ([1, 2, 3, 6, 7], [3, 6, 65, 70, 71])))))
                          .skip)))))
                (.reg ref12_Run_r3 (some ([1, 2, 3, 6, 7], [3, 6, 65, 70, 71]))))))))
      (.seq
        (.reg ref12_Run_r12 (some ([6], [6, 65, 70, 71])))
        .ret)))
def ref12_Run_k (P : Program) (F : Nat → Nat) : Prop := chkFn P (F 105) 3 (ref12_Run_c F) [.loadA 2 (.t 6)] = true

/- lockkeeper/journal.Repair : names 0 d, 1 d, 3 sector, 4 _, 5 l, 6 page, 7 ok, 8 first, 9 _, 10 second, 11 _ uns [] -/
/- journal.go:85 -/
def journal_Repair_r0 : List AOper := [
  ⟨some 1, .box 2 (.t 0), none⟩,
  ⟨some 2, .val (.mov (.k (.nil 3))), none⟩]
/- journal.go:86 -/
def journal_Repair_r1 (F : Nat → Nat) : List AOper := [
  ⟨some 12, .val (.loadA 2 (.t 1)), none⟩,
  ⟨some 13, .call (F 117) [(.t 12)], none⟩,
  ⟨some 14, .val (.not (.t 13)), none⟩]
/- journal.go:87 -/
def journal_Repair_r2 : List AOper := [
  ⟨some 2, .val (.mov (.k (.nil 3))), none⟩]
/- journal.go:89 -/
def journal_Repair_r3 (F : Nat → Nat) : List AOper := [
  ⟨some 16, .val (.loadA 2 (.t 1)), none⟩,
  ⟨some 17, .call (F 37) [(.t 16), (.k (.int .i64 0))], none⟩,
  ⟨some 15, .val (.mov (.t 17)), none⟩,
  ⟨some 18, .val (.extr 0 (.t 15)), none⟩,
  ⟨some 19, .val (.extr 1 (.t 15)), none⟩,
  ⟨some 3, .val (.mov (.t 18)), none⟩,
  ⟨some 4, .val (.mov (.t 19)), none⟩]
/- journal.go:90 -/
def journal_Repair_r4 : List AOper := [
  ⟨some 20, .val (.mov (.t 3)), none⟩,
  ⟨some 21, .val (.bin .eql false (.t 20) (.k (.str [0, 0, 0, 0, 0, 0, 0, 0, 0, 0, 0, 0, 0, 0, 0, 0]))), none⟩]
/- journal.go:91 -/
def journal_Repair_r5 : List AOper := [
  ⟨some 2, .val (.mov (.k (.nil 3))), none⟩]
/- journal.go:93 -/
def journal_Repair_r6 : List AOper := [
  ⟨some 5, .val (.mov (.k (.nil 3))), none⟩]
/- journal.go:94 -/
def journal_Repair_r7 (F : Nat → Nat) : List AOper := [
  ⟨some 23, .val (.mov (.t 3)), none⟩,
  ⟨some 24, .call (F 125) [(.t 23)], none⟩,
  ⟨some 22, .val (.mov (.t 24)), none⟩,
  ⟨some 25, .val (.extr 0 (.t 22)), none⟩,
  ⟨some 26, .val (.extr 1 (.t 22)), none⟩,
  ⟨some 6, .val (.mov (.t 25)), none⟩,
  ⟨some 7, .val (.mov (.t 26)), none⟩]
/- journal.go:94 -/
def journal_Repair_r8 : List AOper := [
  ⟨some 27, .val (.mov (.t 7)), none⟩]
/- journal.go:95 -/
def journal_Repair_r9 (F : Nat → Nat) : List AOper := [
  ⟨some 29, .val (.loadA 2 (.t 1)), none⟩,
  ⟨some 30, .call (F 37) [(.t 29), (.k (.int .i64 1))], none⟩,
  ⟨some 28, .val (.mov (.t 30)), none⟩,
  ⟨some 31, .val (.extr 0 (.t 28)), none⟩,
  ⟨some 32, .val (.extr 1 (.t 28)), none⟩,
  ⟨some 8, .val (.mov (.t 31)), none⟩,
  ⟨some 9, .val (.mov (.t 32)), none⟩]
/- journal.go:96 -/
def journal_Repair_r10 (F : Nat → Nat) : List AOper := [
  ⟨some 34, .val (.loadA 2 (.t 1)), none⟩,
  ⟨some 35, .call (F 37) [(.t 34), (.k (.int .i64 2))], none⟩,
  ⟨some 33, .val (.mov (.t 35)), none⟩,
  ⟨some 36, .val (.extr 0 (.t 33)), none⟩,
  ⟨some 37, .val (.extr 1 (.t 33)), none⟩,
  ⟨some 10, .val (.mov (.t 36)), none⟩,
  ⟨some 11, .val (.mov (.t 37)), none⟩]
/- journal.go:97 -/
def journal_Repair_r11 (F : Nat → Nat) : List AOper := [
  ⟨some 38, .val (.mov (.t 6)), none⟩,
  ⟨some 39, .call (F 122) [(.t 38)], none⟩,
  ⟨some 40, .val (.mov (.t 8)), none⟩,
  ⟨some 41, .val (.mov (.t 10)), none⟩,
  ⟨some 42, .call (F 119) [(.t 39), (.t 40), (.t 41)], none⟩,
  ⟨some 5, .val (.mov (.t 42)), none⟩]
/- journal.go:99 -/
def journal_Repair_r12 (F : Nat → Nat) : List AOper := [
  ⟨some 43, .val (.mov (.t 5)), none⟩,
  ⟨some 44, .call (F 121) [(.k (.str [0, 0, 0, 0, 0, 0, 0, 0, 0, 0, 0, 0, 0, 0, 0, 0]))], none⟩,
  ⟨some 45, .app 3 32 (.t 43) (.t 44), none⟩,
  ⟨some 2, .val (.mov (.t 45)), none⟩]
def journal_Repair_c (F : Nat → Nat) : ACode :=
  (.seq
    (.reg journal_Repair_r0 (some ([1], [1, 45, 1042, 1044])))
    (.seq
      (.seq
        (.reg (journal_Repair_r1 F) (some ([1, 14], [1, 45, 1042, 1044])))
        (.cond (.t 14)
          (.seq
            (.reg journal_Repair_r2 (some ([2], [45, 1042, 1044])))
            .ret)
          .skip))
      (.seq
        (.reg (journal_Repair_r3 F) (some ([1, 3], [1, 45, 1042, 1044])))
        (.seq
          (.seq
            (.reg journal_Repair_r4 (some ([1, 3, 21], [1, 45, 1042, 1044])))
            (.cond (.t 21)
              (.seq
                (.reg journal_Repair_r5 (some ([2], [45, 1042, 1044])))
                .ret)
              .skip))
          (.seq
            (.reg journal_Repair_r6 (some ([1, 3, 5], [1, 45, 1042, 1044])))
            (.seq
              (.seq
                (.reg (journal_Repair_r7 F) (some ([1, 5, 6, 7], [1, 45, 1042, 1044])))
                (.seq
                  (.reg journal_Repair_r8 (some ([1, 5, 6, 27], [1, 45, 1042, 1044])))
                  (.cond (.t 27)
                    (.seq
                      (.reg (journal_Repair_r9 F) (some ([1, 6, 8], [1, 45, 1042, 1044])))
                      (.seq
                        (.reg (journal_Repair_r10 F) (some ([6, 8, 10], [45, 1042, 1044])))
                        (.reg (journal_Repair_r11 F) (some ([5], [45, 1042, 1044])))))
                    .skip)))
              (.seq
                (.reg (journal_Repair_r12 F) (some ([2], [45, 1042, 1044])))
                .ret)))))))
def journal_Repair_k (P : Program) (F : Nat → Nat) : Prop := chkFn P (F 107) 1 (journal_Repair_c F) [2] = true

/- lockkeeper/lockkeeperlaw12.calm : names 0 pages, 1 pages, 3 d, 4 _, 5 i, 6 s uns [] -/
/- law.go:71 -/
def law12_calm_r0 : List AOper := [
  ⟨some 2, .alloc 2 [.nil 1, .nil 2], none⟩]
/- law.go:72 -/
def law12_calm_r1 (F : Nat → Nat) : List AOper := [
  ⟨some 8, .call (F 28) [(.k (.int .i64 35))], none⟩,
  ⟨some 7, .val (.mov (.t 8)), none⟩,
  ⟨some 9, .val (.extr 0 (.t 7)), none⟩,
  ⟨some 10, .val (.extr 1 (.t 7)), none⟩,
  ⟨some 3, .alloc 2 [.nil 1, .nil 2], none⟩,
  ⟨none, .stA true 2 (.t 3) (.t 9), none⟩,
  ⟨some 4, .val (.mov (.t 10)), none⟩]
/- law.go:73 -/
def law12_calm_r2 : List AOper := [
  ⟨some 11, .val (.field 0 (.t 3)), none⟩,
  ⟨some 12, .val (.load1 (.t 11)), none⟩,
  ⟨some 13, .val (.lenS (.t 12)), none⟩,
  ⟨some 14, .val (.bin .neq false (.t 13) (.k (.int .i64 35))), none⟩]
/- law.go:74 -/
def law12_calm_r3 : List AOper := [
  ⟨some 15, .val (.loadA 2 (.t 3)), none⟩,
  ⟨none, .stA true 2 (.t 2) (.t 15), none⟩]
/- law.go:76 -/
def law12_calm_r4 : List AOper := [
  ⟨some 16, .val (.mov (.t 0)), none⟩,
  ⟨some 17, .val (.lenS (.t 16)), none⟩,
  ⟨some 18, .val (.mov (.k (.int .i64 0))), none⟩]
/- law.go:76 -/
def law12_calm_r5 : List AOper := [
  ⟨some 19, .val (.bin .lss false (.t 18) (.t 17)), none⟩]
/- law.go:76 -/
def law12_calm_r6 : List AOper := [
  ⟨some 20, .val (.mov (.t 18)), none⟩,
  ⟨some 21, .val (.ixS 1 (.t 16) (.t 18)), none⟩,
  ⟨some 22, .val (.load1 (.t 21)), none⟩,
  ⟨some 5, .val (.mov (.t 20)), none⟩,
  ⟨some 6, .val (.mov (.t 22)), none⟩]
/- law.go:77 -/
def law12_calm_r7 : List AOper := [
  ⟨some 23, .val (.mov (.t 5)), none⟩,
  ⟨some 24, .val (.bin .lss false (.t 23) (.k (.int .i64 16))), none⟩,
  ⟨some 25, .val (.mov (.t 24)), none⟩,
  ⟨some 26, .val (.mov (.t 6)), some (25, true)⟩,
  ⟨some 27, .val (.lenT (.t 26)), some (25, true)⟩,
  ⟨some 28, .val (.bin .eql false (.t 27) (.k (.int .i64 32))), some (25, true)⟩,
  ⟨some 29, .val (.pand (.t 25) (.t 28)), none⟩]
/- law.go:78 DRAWS -/
def law12_calm_r8 : List AOper := [
  ⟨some 30, .val (.field 0 (.t 3)), none⟩,
  ⟨some 31, .val (.load1 (.t 30)), none⟩,
  ⟨some 32, .val (.mov (.t 5)), none⟩,
  ⟨some 33, .val (.bin .mul true (.k (.int .i64 2)) (.t 32)), none⟩,
  ⟨some 34, .val (.bin .add true (.t 33) (.k (.int .i64 3))), none⟩,
  ⟨some 35, .val (.field 0 (.t 3)), none⟩,
  ⟨some 36, .val (.load1 (.t 35)), none⟩,
  ⟨some 37, .val (.mov (.t 5)), none⟩,
  ⟨some 38, .val (.bin .mul true (.k (.int .i64 2)) (.t 37)), none⟩,
  ⟨some 39, .val (.bin .add true (.t 38) (.k (.int .i64 4))), none⟩,
  ⟨some 40, .val (.mov (.t 6)), none⟩,
  ⟨some 41, .val (.slT (.t 40) none (some (.k (.int .i64 16)))), none⟩,
  ⟨some 42, .val (.mov (.t 6)), none⟩,
  ⟨some 43, .val (.slT (.t 42) (some (.k (.int .i64 16))) none), none⟩,
  ⟨some 44, .val (.ixS 1 (.t 31) (.t 34)), none⟩,
  ⟨none, .st1 false (.t 44) (.t 41), none⟩,
  ⟨some 45, .val (.ixS 1 (.t 36) (.t 39)), none⟩,
  ⟨none, .st1 false (.t 45) (.t 43), none⟩]
/- law.go:76 -/
def law12_calm_r9 : List AOper := [
  ⟨some 46, .val (.bin .add true (.t 18) (.k (.int .i64 1))), none⟩,
  ⟨some 18, .val (.mov (.t 46)), none⟩]
/- law.go:81 -/
def law12_calm_r10 : List AOper := [
  ⟨some 47, .val (.loadA 2 (.t 3)), none⟩,
  ⟨none, .stA true 2 (.t 2) (.t 47), none⟩]
def law12_calm_c (F : Nat → Nat) : ACode :=
  (.seq
    (.reg law12_calm_r0 (some ([0, 2], [2, 1008])))
    (.seq
      (.reg (law12_calm_r1 F) (some ([0, 2, 3], [2, 3, 1008])))
      (.seq
        (.seq
          (.reg law12_calm_r2 (some ([0, 2, 3, 14], [2, 3, 1008])))
          (.cond (.t 14)
            (.seq
              (.reg law12_calm_r3 (some ([2], [2, 1008])))
              .ret)
            .skip))
        (.seq
          (.seq
            (.reg law12_calm_r4 (some ([2, 3, 16, 17, 18], [2, 3, 1008])))
            (.block 0
              (.loop
                (.seq
                  (.reg law12_calm_r5 (some ([2, 3, 16, 17, 18, 19], [2, 3, 1008])))
                  (.seq
                    (.cond (.t 19)
                      .skip
                      (.exit 0))
                    (.seq
                      (.block 1
                        (.seq
                          (.reg law12_calm_r6 (some ([2, 3, 5, 6, 16, 17, 18], [2, 3, 1008])))
                          (.seq
                            (.reg law12_calm_r7 (some ([2, 3, 5, 6, 16, 17, 18, 29], [2, 3, 1008])))
                            (.cond (.t 29)
                              (.regD law12_calm_r8 [(5, 15), (6, 15), (7, 15), (8, 15), (9, 15), (12, 15), (13, 15)] (some ([2, 3, 16, 17, 18], [2, 3, 1008])))
                              .skip))))
                      (.reg law12_calm_r9 (some ([2, 3, 16, 17, 18], [2, 3, 1008])))))))))
          (.seq
            (.reg law12_calm_r10 (some ([2], [2, 1008])))
            .ret)))))
def law12_calm_k (P : Program) (F : Nat → Nat) : Prop := chkFn P (F 109) 1 (law12_calm_c F) [.loadA 2 (.t 2)] = true

/- lockkeeper/journal.Recover : names 0 d, 1 d, 3 l uns [] -/
/- journal.go:129 -/
def journal_Recover_r0 : List AOper := [
  ⟨some 1, .box 2 (.t 0), none⟩,
  ⟨some 2, .alloc 2 [.nil 1, .nil 2], none⟩]
/- journal.go:130 -/
def journal_Recover_r1 (F : Nat → Nat) : List AOper := [
  ⟨some 4, .val (.loadA 2 (.t 1)), none⟩,
  ⟨some 5, .call (F 107) [(.t 4)], none⟩,
  ⟨some 3, .val (.mov (.t 5)), none⟩]
/- journal.go:131 -/
def journal_Recover_r2 (F : Nat → Nat) : List AOper := [
  ⟨some 6, .val (.loadA 2 (.t 1)), none⟩,
  ⟨some 7, .val (.mov (.t 3)), none⟩,
  ⟨some 8, .val (.mov (.t 3)), none⟩,
  ⟨some 9, .val (.lenS (.t 8)), none⟩,
  ⟨some 10, .call (F 111) [(.t 6), (.t 7), (.t 9)], none⟩,
  ⟨none, .stA true 2 (.t 2) (.t 10), none⟩]
def journal_Recover_c (F : Nat → Nat) : ACode :=
  (.seq
    (.reg journal_Recover_r0 (some ([1, 2], [1, 2])))
    (.seq
      (.reg (journal_Recover_r1 F) (some ([1, 2, 3], [1, 2])))
      (.seq
        (.reg (journal_Recover_r2 F) (some ([2], [2])))
        .ret)))
def journal_Recover_k (P : Program) (F : Nat → Nat) : Prop := chkFn P (F 110) 1 (journal_Recover_c F) [.loadA 2 (.t 2)] = true

/- lockkeeper/journal.Run : names 0 d, 1 l, 2 most, 3 d, 4 l, 5 most, 7 i, 8 o, 9 next, 10 e uns [] -/
/- journal.go:103 -/
def journal_Run_r0 : List AOper := [
  ⟨some 3, .box 2 (.t 0), none⟩,
  ⟨some 6, .alloc 2 [.nil 1, .nil 2], none⟩]
/- journal.go:104 -/
def journal_Run_r1 : List AOper := [
  ⟨some 11, .val (.mov (.t 1)), none⟩,
  ⟨some 12, .val (.lenS (.t 11)), none⟩,
  ⟨some 13, .val (.mov (.k (.int .i64 0))), none⟩]
/- journal.go:104 -/
def journal_Run_r2 : List AOper := [
  ⟨some 14, .val (.bin .lss false (.t 13) (.t 12)), none⟩]
/- journal.go:104 -/
def journal_Run_r3 : List AOper := [
  ⟨some 15, .val (.mov (.t 13)), none⟩,
  ⟨some 16, .val (.ixS 3 (.t 11) (.t 13)), none⟩,
  ⟨some 17, .val (.loadA 3 (.t 16)), none⟩,
  ⟨some 8, .alloc 3 [.bool false, .int .i64 0, .str []], none⟩,
  ⟨some 7, .val (.mov (.t 15)), none⟩,
  ⟨none, .stA true 3 (.t 8) (.t 17), none⟩]
/- journal.go:105 -/
def journal_Run_r4 : List AOper := [
  ⟨some 18, .val (.mov (.t 7)), none⟩,
  ⟨some 19, .val (.mov (.t 2)), none⟩,
  ⟨some 20, .val (.bin .geq false (.t 18) (.t 19)), none⟩]
/- journal.go:108 -/
def journal_Run_r5 : List AOper := [
  ⟨some 21, .val (.field 0 (.t 8)), none⟩,
  ⟨some 22, .val (.load1 (.t 21)), none⟩]
/- journal.go:109 -/
def journal_Run_r6 (F : Nat → Nat) : List AOper := [
  ⟨some 23, .val (.loadA 2 (.t 3)), none⟩,
  ⟨some 24, .call (F 41) [(.t 23)], none⟩,
  ⟨none, .stA true 2 (.t 3) (.t 24), none⟩]
/- journal.go:112 -/
def journal_Run_r7 (F : Nat → Nat) : List AOper := [
  ⟨some 26, .val (.loadA 2 (.t 3)), none⟩,
  ⟨some 27, .val (.field 1 (.t 8)), none⟩,
  ⟨some 28, .val (.loadA 2 (.t 27)), none⟩,
  ⟨some 29, .call (F 36) [(.t 26), (.t 28)], none⟩,
  ⟨some 25, .val (.mov (.t 29)), none⟩,
  ⟨some 30, .val (.extr 0 (.t 25)), none⟩,
  ⟨some 31, .val (.extr 1 (.t 25)), none⟩,
  ⟨some 9, .alloc 2 [.nil 1, .nil 2], none⟩,
  ⟨none, .stA true 2 (.t 9) (.t 30), none⟩,
  ⟨some 10, .val (.mov (.t 31)), none⟩]
/- journal.go:112 -/
def journal_Run_r8 : List AOper := [
  ⟨some 32, .val (.mov (.t 10)), none⟩,
  ⟨some 33, .val (.bin .eql false (.t 32) (.k (.int .i64 0))), none⟩]
/- journal.go:113 -/
def journal_Run_r9 : List AOper := [
  ⟨some 34, .val (.loadA 2 (.t 9)), none⟩,
  ⟨none, .stA true 2 (.t 3) (.t 34), none⟩]
/- journal.go:104 -/
def journal_Run_r10 : List AOper := [
  ⟨some 35, .val (.bin .add true (.t 13) (.k (.int .i64 1))), none⟩,
  ⟨some 13, .val (.mov (.t 35)), none⟩]
/- journal.go:116 -/
def journal_Run_r11 : List AOper := [
  ⟨some 36, .val (.loadA 2 (.t 3)), none⟩,
  ⟨none, .stA true 2 (.t 6) (.t 36), none⟩]
def journal_Run_c (F : Nat → Nat) : ACode :=
  (.seq
    (.reg journal_Run_r0 (some ([1, 2, 3, 6], [3, 6])))
    (.seq
      (.seq
        (.reg journal_Run_r1 (some ([2, 3, 6, 11, 12, 13], [3, 6])))
        (.block 0
          (.loop
            (.seq
              (.reg journal_Run_r2 (some ([2, 3, 6, 11, 12, 13, 14], [3, 6])))
              (.seq
                (.cond (.t 14)
                  .skip
                  (.exit 0))
                (.seq
                  (.block 1
                    (.seq
                      (.reg journal_Run_r3 (some ([2, 3, 6, 7, 8, 11, 12, 13], [3, 6, 8])))
                      (.seq
                        (.seq
                          (.reg journal_Run_r4 (some ([2, 3, 6, 8, 11, 12, 13, 20], [3, 6, 8])))
                          (.cond (.t 20)
                            (.exit 0)
                            .skip))
                        (.seq
                          (.seq
                            (.reg journal_Run_r5 (some ([2, 3, 6, 8, 11, 12, 13, 22], [3, 6, 8])))
                            (.cond (.t 22)
                              (.seq
                                (.reg (journal_Run_r6 F) (some ([2, 3, 6, 11, 12, 13], [3, 6])))
                                (.exit 1))
                              .skip))
                          (.seq
                            (.reg (journal_Run_r7 F) (some ([2, 3, 6, 9, 10, 11, 12, 13], [3, 6, 9])))
                            (.seq
                              (.reg journal_Run_r8 (some ([2, 3, 6, 9, 11, 12, 13, 33], [3, 6, 9])))
                              (.cond (.t 33)
                                (.reg journal_Run_r9 (some ([2, 3, 6, 11, 12, 13], [3, 6])))
                                .skip)))))))
                  (.reg journal_Run_r10 (some ([2, 3, 6, 11, 12, 13], [3, 6])))))))))
      (.seq
        (.reg journal_Run_r11 (some ([6], [6])))
        .ret)))
def journal_Run_k (P : Program) (F : Nat → Nat) : Prop := chkFn P (F 111) 3 (journal_Run_c F) [.loadA 2 (.t 6)] = true

/- lockkeeper/lockkeeperlaw12.old : names 0 d, 1 was, 2 page, 3 data, 4 d, 5 was, 6 page, 7 data, 9 p, 10 a, 11 e, 12 b uns [] -/
/- law.go:85 -/
def law12_old_r0 : List AOper := [
  ⟨some 4, .box 2 (.t 0), none⟩,
  ⟨some 5, .box 2 (.t 1), none⟩,
  ⟨some 8, .val (.mov (.k (.bool false))), none⟩]
/- law.go:86 DRAWS -/
def law12_old_r1 : List AOper := [
  ⟨some 13, .val (.field 0 (.t 4)), none⟩,
  ⟨some 14, .val (.load1 (.t 13)), none⟩,
  ⟨some 15, .val (.lenS (.t 14)), none⟩,
  ⟨some 16, .val (.bin .neq false (.t 15) (.k (.int .i64 35))), none⟩,
  ⟨some 17, .val (.mov (.t 16)), none⟩,
  ⟨some 18, .val (.field 1 (.t 4)), some (17, false)⟩,
  ⟨some 19, .val (.load1 (.t 18)), some (17, false)⟩,
  ⟨some 20, .val (.lenS (.t 19)), some (17, false)⟩,
  ⟨some 21, .val (.bin .neq false (.t 20) (.k (.int .i64 0))), some (17, false)⟩,
  ⟨some 22, .val (.por (.t 17) (.t 21)), none⟩,
  ⟨some 23, .val (.mov (.t 22)), none⟩,
  ⟨some 24, .val (.field 0 (.t 4)), some (23, false)⟩,
  ⟨some 25, .val (.load1 (.t 24)), some (23, false)⟩,
  ⟨some 26, .val (.ixS 1 (.t 25) (.k (.int .i64 0))), some (23, false)⟩,
  ⟨some 27, .val (.load1 (.t 26)), some (23, false)⟩,
  ⟨some 28, .val (.field 0 (.t 5)), some (23, false)⟩,
  ⟨some 29, .val (.load1 (.t 28)), some (23, false)⟩,
  ⟨some 30, .val (.ixS 1 (.t 29) (.k (.int .i64 0))), some (23, false)⟩,
  ⟨some 31, .val (.load1 (.t 30)), some (23, false)⟩,
  ⟨some 32, .val (.bin .neq false (.t 27) (.t 31)), some (23, false)⟩,
  ⟨some 33, .val (.por (.t 23) (.t 32)), none⟩]
/- law.go:87 -/
def law12_old_r2 : List AOper := [
  ⟨some 8, .val (.mov (.k (.bool false))), none⟩]
/- law.go:89 -/
def law12_old_r3 : List AOper := [
  ⟨some 9, .val (.mov (.k (.int .i64 1))), none⟩]
/- law.go:89 -/
def law12_old_r4 : List AOper := [
  ⟨some 34, .val (.mov (.t 9)), none⟩,
  ⟨some 35, .val (.bin .leq false (.t 34) (.k (.int .i64 16))), none⟩]
/- law.go:90 -/
def law12_old_r6 (F : Nat → Nat) : List AOper := [
  ⟨some 39, .val (.loadA 2 (.t 4)), none⟩,
  ⟨some 40, .val (.mov (.t 9)), none⟩,
  ⟨some 41, .call (F 99) [(.t 39), (.t 40)], none⟩,
  ⟨some 38, .val (.mov (.t 41)), none⟩,
  ⟨some 42, .val (.extr 0 (.t 38)), none⟩,
  ⟨some 43, .val (.extr 1 (.t 38)), none⟩,
  ⟨some 10, .val (.mov (.t 42)), none⟩,
  ⟨some 11, .val (.mov (.t 43)), none⟩]
/- law.go:91 DRAWS -/
def law12_old_r7 : List AOper := [
  ⟨some 44, .val (.field 0 (.t 5)), none⟩,
  ⟨some 45, .val (.load1 (.t 44)), none⟩,
  ⟨some 46, .val (.mov (.t 9)), none⟩,
  ⟨some 47, .val (.bin .mul true (.k (.int .i64 2)) (.t 46)), none⟩,
  ⟨some 48, .val (.bin .add true (.t 47) (.k (.int .i64 1))), none⟩,
  ⟨some 49, .val (.ixS 1 (.t 45) (.t 48)), none⟩,
  ⟨some 50, .val (.load1 (.t 49)), none⟩,
  ⟨some 51, .val (.field 0 (.t 5)), none⟩,
  ⟨some 52, .val (.load1 (.t 51)), none⟩,
  ⟨some 53, .val (.mov (.t 9)), none⟩,
  ⟨some 54, .val (.bin .mul true (.k (.int .i64 2)) (.t 53)), none⟩,
  ⟨some 55, .val (.bin .add true (.t 54) (.k (.int .i64 2))), none⟩,
  ⟨some 56, .val (.ixS 1 (.t 52) (.t 55)), none⟩,
  ⟨some 57, .val (.load1 (.t 56)), none⟩,
  ⟨some 58, .val (.bin .add false (.t 50) (.t 57)), none⟩,
  ⟨some 12, .val (.mov (.t 58)), none⟩]
/- law.go:92 -/
def law12_old_r8 : List AOper := [
  ⟨some 59, .val (.mov (.t 11)), none⟩,
  ⟨some 60, .val (.bin .neq false (.t 59) (.k (.int .i64 0))), none⟩,
  ⟨some 61, .val (.mov (.t 60)), none⟩,
  ⟨some 62, .val (.mov (.t 10)), some (61, false)⟩,
  ⟨some 63, .val (.mov (.t 12)), some (61, false)⟩,
  ⟨some 64, .val (.bin .neq false (.t 62) (.t 63)), some (61, false)⟩,
  ⟨some 65, .val (.mov (.t 64)), some (61, false)⟩,
  ⟨some 66, .val (.mov (.t 9)), some (65, true)⟩,
  ⟨some 67, .val (.mov (.t 2)), some (65, true)⟩,
  ⟨some 68, .val (.bin .neq false (.t 66) (.t 67)), some (65, true)⟩,
  ⟨some 69, .val (.mov (.t 68)), some (65, true)⟩,
  ⟨some 70, .val (.mov (.t 10)), some (69, false)⟩,
  ⟨some 71, .val (.mov (.t 3)), some (69, false)⟩,
  ⟨some 72, .val (.bin .neq false (.t 70) (.t 71)), some (69, false)⟩,
  ⟨some 73, .val (.por (.t 69) (.t 72)), some (65, true)⟩,
  ⟨some 74, .val (.pand (.t 65) (.t 73)), some (61, false)⟩,
  ⟨some 75, .val (.por (.t 61) (.t 74)), none⟩]
/- law.go:93 -/
def law12_old_r9 : List AOper := [
  ⟨some 8, .val (.mov (.k (.bool false))), none⟩]
/- law.go:89 -/
def law12_old_r5 : List AOper := [
  ⟨some 36, .val (.mov (.t 9)), none⟩,
  ⟨some 37, .val (.bin .add true (.t 36) (.k (.int .i64 1))), none⟩,
  ⟨some 9, .val (.mov (.t 37)), none⟩]
/- law.go:96 -/
def law12_old_r10 : List AOper := [
  ⟨some 8, .val (.mov (.k (.bool true))), none⟩]
def law12_old_c (F : Nat → Nat) : ACode :=
  (.seq
    (.reg law12_old_r0 (some ([2, 3, 4, 5], [4, 5])))
    (.seq
      (.seq
        (.regD law12_old_r1 [] (some ([2, 3, 4, 5, 33], [4, 5])))
        (.cond (.t 33)
          (.seq
            (.reg law12_old_r2 (some ([8], [])))
            .ret)
          .skip))
      (.seq
        (.seq
          (.reg law12_old_r3 (some ([2, 3, 4, 5, 9], [4, 5])))
          (.block 0
            (.loop
              (.seq
                (.seq
                  (.reg law12_old_r4 (some ([2, 3, 4, 5, 9, 35], [4, 5])))
                  (.cond (.t 35)
                    .skip
                    (.exit 0)))
                (.seq
                  (.block 1
                    (.seq
                      (.reg (law12_old_r6 F) (some ([2, 3, 4, 5, 9, 10, 11], [4, 5])))
                      (.seq
                        (.regD law12_old_r7 [] (some ([2, 3, 4, 5, 9, 10, 11, 12], [4, 5])))
                        (.seq
                          (.reg law12_old_r8 (some ([2, 3, 4, 5, 9, 75], [4, 5])))
                          (.cond (.t 75)
                            (.seq
                              (.reg law12_old_r9 (some ([8], [])))
                              .ret)
                            .skip)))))
                  (.reg law12_old_r5 (some ([2, 3, 4, 5, 9], [4, 5]))))))))
        (.seq
          (.reg law12_old_r10 (some ([8], [])))
          .ret))))
def law12_old_k (P : Program) (F : Nat → Nat) : Prop := chkFn P (F 115) 4 (law12_old_c F) [8] = true

/- lockkeeper/journal.usable : names 0 d, 1 d uns [] -/
/- journal.go:25 -/
def journal_usable_r0 : List AOper := [
  ⟨some 1, .box 2 (.t 0), none⟩,
  ⟨some 2, .val (.mov (.k (.bool false))), none⟩]
/- journal.go:26 -/
def journal_usable_r1 (F : Nat → Nat) : List AOper := [
  ⟨some 3, .val (.loadA 2 (.t 1)), none⟩,
  ⟨some 4, .call (F 40) [(.t 3)], none⟩,
  ⟨some 5, .val (.mov (.t 4)), none⟩,
  ⟨some 6, .val (.field 0 (.t 1)), some (5, true)⟩,
  ⟨some 7, .val (.load1 (.t 6)), some (5, true)⟩,
  ⟨some 8, .val (.lenS (.t 7)), some (5, true)⟩,
  ⟨some 9, .val (.bin .geq false (.t 8) (.k (.int .i64 35))), some (5, true)⟩,
  ⟨some 10, .val (.pand (.t 5) (.t 9)), none⟩,
  ⟨some 2, .val (.mov (.t 10)), none⟩]
def journal_usable_c (F : Nat → Nat) : ACode :=
  (.seq
    (.reg journal_usable_r0 (some ([1], [1])))
    (.seq
      (.reg (journal_usable_r1 F) (some ([2], [])))
      .ret))
def journal_usable_k (P : Program) (F : Nat → Nat) : Prop := chkFn P (F 117) 1 (journal_usable_c F) [2] = true

/- lockkeeper/journal.valid : names 0 page, 1 page uns [] -/
/- journal.go:30 -/
def journal_valid_r0 : List AOper := [
  ⟨some 2, .val (.mov (.k (.bool false))), none⟩]
/- journal.go:31 -/
def journal_valid_r1 : List AOper := [
  ⟨some 3, .val (.mov (.t 0)), none⟩,
  ⟨some 4, .val (.bin .geq false (.t 3) (.k (.int .i64 1))), none⟩,
  ⟨some 5, .val (.mov (.t 4)), none⟩,
  ⟨some 6, .val (.mov (.t 0)), some (5, true)⟩,
  ⟨some 7, .val (.bin .leq false (.t 6) (.k (.int .i64 16))), some (5, true)⟩,
  ⟨some 8, .val (.pand (.t 5) (.t 7)), none⟩,
  ⟨some 2, .val (.mov (.t 8)), none⟩]
def journal_valid_c : ACode :=
  (.seq
    (.reg journal_valid_r0 (some ([0], [])))
    (.seq
      (.reg journal_valid_r1 (some ([2], [])))
      .ret))
def journal_valid_k (P : Program) (F : Nat → Nat) : Prop := chkFn P (F 118) 1 (journal_valid_c) [2] = true

/- lockkeeper/journal.halves : names 0 at, 1 first, 2 second, 3 at, 4 first, 5 second uns [] -/
/- journal.go:55 -/
def journal_halves_r0 : List AOper := [
  ⟨some 6, .val (.mov (.k (.nil 3))), none⟩]
/- journal.go:56 -/
def journal_halves_r1 : List AOper := [
  ⟨some 7, .val (.mov (.t 0)), none⟩,
  ⟨some 8, .val (.mov (.t 1)), none⟩,
  ⟨some 9, .val (.build 2 [.int .i64 0, .str []] [(0, 1, (.t 7)), (1, 1, (.t 8))]), none⟩,
  ⟨some 10, .val (.build 3 [.bool false, .int .i64 0, .str []] [(1, 2, (.t 9))]), none⟩,
  ⟨some 11, .val (.mov (.t 0)), none⟩,
  ⟨some 12, .val (.bin .add true (.t 11) (.k (.int .i64 1))), none⟩,
  ⟨some 13, .val (.mov (.t 2)), none⟩,
  ⟨some 14, .val (.build 2 [.int .i64 0, .str []] [(0, 1, (.t 12)), (1, 1, (.t 13))]), none⟩,
  ⟨some 15, .val (.build 3 [.bool false, .int .i64 0, .str []] [(1, 2, (.t 14))]), none⟩,
  ⟨some 16, .val (.build 3 [.bool false, .int .i64 0, .str []] [(0, 1, (.k (.bool true)))]), none⟩,
  ⟨some 17, .buildS 3 3 [.bool false, .int .i64 0, .str []] [(0, (.t 10)), (1, (.t 15)), (2, (.t 16))], none⟩,
  ⟨some 6, .val (.mov (.t 17)), none⟩]
def journal_halves_c : ACode :=
  (.seq
    (.reg journal_halves_r0 (some ([0, 1, 2], [17])))
    (.seq
      (.reg journal_halves_r1 (some ([6], [17])))
      .ret))
def journal_halves_k (P : Program) (F : Nat → Nat) : Prop := chkFn P (F 119) 3 (journal_halves_c) [6] = true

/- lockkeeper/journal.top : names 0 data, 1 data uns [] -/
/- journal.go:64 -/
def journal_top_r0 : List AOper := [
  ⟨some 2, .val (.mov (.k (.nil 3))), none⟩]
/- journal.go:65 -/
def journal_top_r1 : List AOper := [
  ⟨some 3, .val (.mov (.t 0)), none⟩,
  ⟨some 4, .val (.build 2 [.int .i64 0, .str []] [(0, 1, (.k (.int .i64 0))), (1, 1, (.t 3))]), none⟩,
  ⟨some 5, .val (.build 3 [.bool false, .int .i64 0, .str []] [(1, 2, (.t 4))]), none⟩,
  ⟨some 6, .val (.build 3 [.bool false, .int .i64 0, .str []] [(0, 1, (.k (.bool true)))]), none⟩,
  ⟨some 7, .buildS 3 2 [.bool false, .int .i64 0, .str []] [(0, (.t 5)), (1, (.t 6))], none⟩,
  ⟨some 2, .val (.mov (.t 7)), none⟩]
def journal_top_c : ACode :=
  (.seq
    (.reg journal_top_r0 (some ([0], [7])))
    (.seq
      (.reg journal_top_r1 (some ([2], [7])))
      .ret))
def journal_top_k (P : Program) (F : Nat → Nat) : Prop := chkFn P (F 121) 1 (journal_top_c) [2] = true

/- lockkeeper/journal.head : names 0 page, 1 page uns [] -/
/- journal.go:40 -/
def journal_head_r0 : List AOper := [
  ⟨some 2, .val (.mov (.k (.str []))), none⟩]
/- journal.go:41 DRAWS -/
def journal_head_r1 : List AOper := [
  ⟨some 3, .val (.mov (.t 0)), none⟩,
  ⟨some 4, .val (.conv false .u8 (.t 3)), none⟩,
  ⟨some 5, .buildS 1 2 [.int .u8 0] [(0, (.k (.int .u8 74))), (1, (.t 4))], none⟩,
  ⟨some 6, .val (.b2s (.t 5)), none⟩,
  ⟨some 7, .val (.slT (.k (.str [0, 0, 0, 0, 0, 0, 0, 0, 0, 0, 0, 0, 0, 0, 0, 0])) (some (.k (.int .i64 2))) none), none⟩,
  ⟨some 8, .val (.bin .add false (.t 6) (.t 7)), none⟩,
  ⟨some 2, .val (.mov (.t 8)), none⟩]
def journal_head_c : ACode :=
  (.seq
    (.reg journal_head_r0 (some ([0], [5])))
    (.seq
      (.regD journal_head_r1 [(2, 4)] (some ([2], [5])))
      .ret))
def journal_head_k (P : Program) (F : Nat → Nat) : Prop := chkFn P (F 120) 1 (journal_head_c) [2] = true

/- lockkeeper/journal.home : names 0 page, 1 page uns [] -/
/- journal.go:35 -/
def journal_home_r0 : List AOper := [
  ⟨some 2, .val (.mov (.k (.int .i64 0))), none⟩]
/- journal.go:36 -/
def journal_home_r1 : List AOper := [
  ⟨some 3, .val (.mov (.t 0)), none⟩,
  ⟨some 4, .val (.bin .mul true (.k (.int .i64 2)) (.t 3)), none⟩,
  ⟨some 5, .val (.bin .add true (.t 4) (.k (.int .i64 1))), none⟩,
  ⟨some 2, .val (.mov (.t 5)), none⟩]
def journal_home_c : ACode :=
  (.seq
    (.reg journal_home_r0 (some ([0], [])))
    (.seq
      (.reg journal_home_r1 (some ([2], [])))
      .ret))
def journal_home_k (P : Program) (F : Nat → Nat) : Prop := chkFn P (F 122) 1 (journal_home_c) [2] = true

/- lockkeeper/lockkeeperref12.at : names 0 n, 1 s, 2 n, 3 s uns [] -/
/- ref.go:27 -/
def ref12_at_r0 : List AOper := [
  ⟨some 4, .alloc 3 [.bool false, .int .i64 0, .str []], none⟩]
/- ref.go:27 -/
def ref12_at_r1 : List AOper := [
  ⟨some 5, .val (.mov (.t 0)), none⟩,
  ⟨some 6, .val (.mov (.t 1)), none⟩,
  ⟨some 7, .val (.build 2 [.int .i64 0, .str []] [(0, 1, (.t 5)), (1, 1, (.t 6))]), none⟩,
  ⟨some 8, .val (.build 3 [.bool false, .int .i64 0, .str []] [(1, 2, (.t 7))]), none⟩,
  ⟨none, .stA true 3 (.t 4) (.t 8), none⟩]
def ref12_at_c : ACode :=
  (.seq
    (.reg ref12_at_r0 (some ([0, 1, 4], [4])))
    (.seq
      (.reg ref12_at_r1 (some ([4], [4])))
      .ret))
def ref12_at_k (P : Program) (F : Nat → Nat) : Prop := chkFn P (F 123) 2 (ref12_at_c) [.loadA 3 (.t 4)] = true

/- lockkeeper/lockkeeperref12.filled : names 0 s, 1 s uns [] -/
/- ref.go:19 -/
def ref12_filled_r0 : List AOper := [
  ⟨some 2, .val (.mov (.k (.str []))), none⟩]
/- ref.go:20 -/
def ref12_filled_r1 : List AOper := [
  ⟨some 3, .val (.mov (.t 0)), none⟩,
  ⟨some 4, .val (.lenT (.t 3)), none⟩,
  ⟨some 5, .val (.bin .lss false (.t 4) (.k (.int .i64 16))), none⟩]
/- ref.go:21 -/
def ref12_filled_r2 : List AOper := [
  ⟨some 6, .val (.mov (.t 0)), none⟩,
  ⟨some 7, .buildS 1 1 [.int .u8 0] [(0, (.k (.int .u8 0)))], none⟩,
  ⟨some 8, .val (.b2s (.t 7)), none⟩,
  ⟨some 9, .val (.bin .add false (.t 6) (.t 8)), none⟩,
  ⟨some 0, .val (.mov (.t 9)), none⟩]
/- ref.go:23 -/
def ref12_filled_r3 : List AOper := [
  ⟨some 10, .val (.mov (.t 0)), none⟩,
  ⟨some 2, .val (.mov (.t 10)), none⟩]
def ref12_filled_c : ACode :=
  (.seq
    (.reg ref12_filled_r0 (some ([0], [7])))
    (.seq
      (.block 0
        (.loop
          (.seq
            (.seq
              (.reg ref12_filled_r1 (some ([0, 5], [7])))
              (.cond (.t 5)
                .skip
                (.exit 0)))
            (.block 1
              (.reg ref12_filled_r2 (some ([0], [7])))))))
      (.seq
        (.reg ref12_filled_r3 (some ([2], [7])))
        .ret)))
def ref12_filled_k (P : Program) (F : Nat → Nat) : Prop := chkFn P (F 124) 1 (ref12_filled_c) [2] = true

/- lockkeeper/journal.headed : names 0 sector, 1 sector, 4 page uns [] -/
/- journal.go:45 -/
def journal_headed_r0 : List AOper := [
  ⟨some 2, .val (.mov (.k (.int .i64 0))), none⟩,
  ⟨some 3, .val (.mov (.k (.bool false))), none⟩]
/- journal.go:46 -/
def journal_headed_r1 : List AOper := [
  ⟨some 4, .val (.mov (.k (.int .i64 1))), none⟩]
/- journal.go:46 -/
def journal_headed_r2 : List AOper := [
  ⟨some 5, .val (.mov (.t 4)), none⟩,
  ⟨some 6, .val (.bin .leq false (.t 5) (.k (.int .i64 16))), none⟩]
/- journal.go:47 -/
def journal_headed_r4 (F : Nat → Nat) : List AOper := [
  ⟨some 9, .val (.mov (.t 0)), none⟩,
  ⟨some 10, .val (.mov (.t 4)), none⟩,
  ⟨some 11, .call (F 120) [(.t 10)], none⟩,
  ⟨some 12, .val (.bin .eql false (.t 9) (.t 11)), none⟩]
/- journal.go:48 -/
def journal_headed_r5 : List AOper := [
  ⟨some 13, .val (.mov (.t 4)), none⟩,
  ⟨some 2, .val (.mov (.t 13)), none⟩,
  ⟨some 3, .val (.mov (.k (.bool true))), none⟩]
/- journal.go:46 -/
def journal_headed_r3 : List AOper := [
  ⟨some 7, .val (.mov (.t 4)), none⟩,
  ⟨some 8, .val (.bin .add true (.t 7) (.k (.int .i64 1))), none⟩,
  ⟨some 4, .val (.mov (.t 8)), none⟩]
/- journal.go:51 -/
def journal_headed_r6 : List AOper := [
  ⟨some 2, .val (.mov (.k (.int .i64 0))), none⟩,
  ⟨some 3, .val (.mov (.k (.bool false))), none⟩]
def journal_headed_c (F : Nat → Nat) : ACode :=
  (.seq
    (.reg journal_headed_r0 (some ([0], [])))
    (.seq
      (.seq
        (.reg journal_headed_r1 (some ([0, 4], [])))
        (.block 0
          (.loop
            (.seq
              (.seq
                (.reg journal_headed_r2 (some ([0, 4, 6], [])))
                (.cond (.t 6)
                  .skip
                  (.exit 0)))
              (.seq
                (.block 1
                  (.seq
                    (.reg (journal_headed_r4 F) (some ([0, 4, 12], [])))
                    (.cond (.t 12)
                      (.seq
                        (.reg journal_headed_r5 (some ([2, 3], [])))
                        .ret)
                      .skip)))
                (.reg journal_headed_r3 (some ([0, 4], []))))))))
      (.seq
        (.reg journal_headed_r6 (some ([2, 3], [])))
        .ret)))
def journal_headed_k (P : Program) (F : Nat → Nat) : Prop := chkFn P (F 125) 1 (journal_headed_c F) [2, 3] = true

end Lk.C
