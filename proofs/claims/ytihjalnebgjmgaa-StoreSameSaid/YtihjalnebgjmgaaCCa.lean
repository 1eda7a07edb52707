/-
  CCa: what these chapters need.
-/
import Derived.Test.YtihjalnebgjmgaaLkC
set_option linter.unusedSimpArgs false
set_option linter.unusedVariables false
namespace Lk.C
open Go Lk
def law12_awake_r0 : List AOper := [
  ⟨some 0, .val (.mov (.k (.bool false))), none⟩]
def law12_awake_r1 (F : Nat → Nat) : List AOper := [
  ⟨some 14, .call (F 28) [(.k (.int .i64 35))], none⟩,
  ⟨some 13, .val (.mov (.t 14)), none⟩,
  ⟨some 15, .val (.extr 0 (.t 13)), none⟩,
  ⟨some 16, .val (.extr 1 (.t 13)), none⟩,
  ⟨some 1, .alloc 2 [.nil 1, .nil 2], none⟩,
  ⟨none, .stA true 2 (.t 1) (.t 15), none⟩,
  ⟨some 2, .val (.mov (.t 16)), none⟩]
def law12_awake_r2 : List AOper := [
  ⟨some 3, .val (.mov (.k (.str [48, 49, 50, 51, 52, 53, 54, 55, 56, 57, 97, 98, 99, 100, 101, 102, 48, 49, 50, 51, 52, 53, 54, 55, 56, 57, 65, 66, 67, 68, 69, 70]))), none⟩]
def law12_awake_r3 (F : Nat → Nat) : List AOper := [
  ⟨some 18, .val (.loadA 2 (.t 1)), none⟩,
  ⟨some 19, .val (.mov (.t 3)), none⟩,
  ⟨some 20, .call (F 97) [(.t 18), (.k (.int .i64 3)), (.t 19)], none⟩,
  ⟨some 17, .val (.mov (.t 20)), none⟩,
  ⟨some 21, .val (.extr 0 (.t 17)), none⟩,
  ⟨some 22, .val (.extr 1 (.t 17)), none⟩,
  ⟨some 4, .val (.mov (.t 21)), none⟩,
  ⟨some 5, .val (.mov (.t 22)), none⟩]
def law12_awake_r4 (F : Nat → Nat) : List AOper := [
  ⟨some 24, .val (.loadA 2 (.t 1)), none⟩,
  ⟨some 25, .val (.mov (.t 3)), none⟩,
  ⟨some 26, .call (F 98) [(.t 24), (.k (.int .i64 3)), (.t 25)], none⟩,
  ⟨some 23, .val (.mov (.t 26)), none⟩,
  ⟨some 27, .val (.extr 0 (.t 23)), none⟩,
  ⟨some 28, .val (.extr 1 (.t 23)), none⟩,
  ⟨some 6, .alloc 2 [.nil 1, .nil 2], none⟩,
  ⟨none, .stA true 2 (.t 6) (.t 27), none⟩,
  ⟨some 7, .val (.mov (.t 28)), none⟩]
def law12_awake_r5 (F : Nat → Nat) : List AOper := [
  ⟨some 30, .val (.loadA 2 (.t 6)), none⟩,
  ⟨some 31, .call (F 99) [(.t 30), (.k (.int .i64 3))], none⟩,
  ⟨some 29, .val (.mov (.t 31)), none⟩,
  ⟨some 32, .val (.extr 0 (.t 29)), none⟩,
  ⟨some 33, .val (.extr 1 (.t 29)), none⟩,
  ⟨some 8, .val (.mov (.t 32)), none⟩,
  ⟨some 9, .val (.mov (.t 33)), none⟩]
def law12_awake_r6 (F : Nat → Nat) : List AOper := [
  ⟨some 34, .val (.loadA 2 (.t 1)), none⟩,
  ⟨some 35, .val (.mov (.t 4)), none⟩,
  ⟨some 36, .call (F 111) [(.t 34), (.t 35), (.k (.int .i64 5))], none⟩,
  ⟨some 37, .call (F 41) [(.t 36)], none⟩,
  ⟨some 10, .alloc 2 [.nil 1, .nil 2], none⟩,
  ⟨none, .stA true 2 (.t 10) (.t 37), none⟩]
def law12_awake_r7 (F : Nat → Nat) : List AOper := [
  ⟨some 39, .val (.loadA 2 (.t 10)), none⟩,
  ⟨some 40, .call (F 110) [(.t 39)], none⟩,
  ⟨some 41, .call (F 99) [(.t 40), (.k (.int .i64 3))], none⟩,
  ⟨some 38, .val (.mov (.t 41)), none⟩,
  ⟨some 42, .val (.extr 0 (.t 38)), none⟩,
  ⟨some 43, .val (.extr 1 (.t 38)), none⟩,
  ⟨some 11, .val (.mov (.t 42)), none⟩,
  ⟨some 12, .val (.mov (.t 43)), none⟩]
def law12_awake_r8 (F : Nat → Nat) : List AOper := [
  ⟨some 44, .val (.mov (.t 4)), none⟩,
  ⟨some 45, .val (.lenS (.t 44)), none⟩,
  ⟨some 46, .val (.bin .eql false (.t 45) (.k (.int .i64 10))), none⟩,
  ⟨some 47, .val (.mov (.t 46)), none⟩,
  ⟨some 48, .val (.mov (.t 5)), some (47, true)⟩,
  ⟨some 49, .val (.bin .eql false (.t 48) (.k (.int .i64 0))), some (47, true)⟩,
  ⟨some 50, .val (.pand (.t 47) (.t 49)), none⟩,
  ⟨some 51, .val (.mov (.t 50)), none⟩,
  ⟨some 52, .val (.mov (.t 7)), some (51, true)⟩,
  ⟨some 53, .val (.bin .eql false (.t 52) (.k (.int .i64 0))), some (51, true)⟩,
  ⟨some 54, .val (.pand (.t 51) (.t 53)), none⟩,
  ⟨some 55, .val (.mov (.t 54)), none⟩,
  ⟨some 56, .val (.mov (.t 8)), some (55, true)⟩,
  ⟨some 57, .val (.mov (.t 3)), some (55, true)⟩,
  ⟨some 58, .val (.bin .eql false (.t 56) (.t 57)), some (55, true)⟩,
  ⟨some 59, .val (.pand (.t 55) (.t 58)), none⟩,
  ⟨some 60, .val (.mov (.t 59)), none⟩,
  ⟨some 61, .val (.mov (.t 9)), some (60, true)⟩,
  ⟨some 62, .val (.bin .eql false (.t 61) (.k (.int .i64 0))), some (60, true)⟩,
  ⟨some 63, .val (.pand (.t 60) (.t 62)), none⟩,
  ⟨some 64, .val (.mov (.t 63)), none⟩,
  ⟨some 65, .val (.mov (.t 11)), some (64, true)⟩,
  ⟨some 66, .val (.mov (.t 3)), some (64, true)⟩,
  ⟨some 67, .val (.bin .eql false (.t 65) (.t 66)), some (64, true)⟩,
  ⟨some 68, .val (.pand (.t 64) (.t 67)), none⟩,
  ⟨some 69, .val (.mov (.t 68)), none⟩,
  ⟨some 70, .val (.mov (.t 12)), some (69, true)⟩,
  ⟨some 71, .val (.bin .eql false (.t 70) (.k (.int .i64 0))), some (69, true)⟩,
  ⟨some 72, .val (.pand (.t 69) (.t 71)), none⟩,
  ⟨some 73, .val (.mov (.t 72)), none⟩,
  ⟨some 74, .val (.loadA 2 (.t 1)), some (73, true)⟩,
  ⟨some 75, .call (F 107) [(.t 74)], some (73, true)⟩,
  ⟨some 76, .val (.lenS (.t 75)), some (73, true)⟩,
  ⟨some 77, .val (.bin .eql false (.t 76) (.k (.int .i64 0))), some (73, true)⟩,
  ⟨some 78, .val (.pand (.t 73) (.t 77)), none⟩,
  ⟨some 0, .val (.mov (.t 78)), none⟩]
def law12_awake_c (F : Nat → Nat) : ACode :=
  (.seq
    (.reg law12_awake_r0 (some ([], [])))
    (.seq
      (.reg (law12_awake_r1 F) (some ([1], [1])))
      (.seq
        (.reg law12_awake_r2 (some ([1, 3], [1])))
        (.seq
          (.reg (law12_awake_r3 F) (some ([1, 3, 4, 5], [1])))
          (.seq
            (.reg (law12_awake_r4 F) (some ([1, 3, 4, 5, 6, 7], [1, 6])))
            (.seq
              (.reg (law12_awake_r5 F) (some ([1, 3, 4, 5, 7, 8, 9], [1])))
              (.seq
                (.reg (law12_awake_r6 F) (some ([1, 3, 4, 5, 7, 8, 9, 10], [1, 10])))
                (.seq
                  (.reg (law12_awake_r7 F) (some ([1, 3, 4, 5, 7, 8, 9, 11, 12], [1])))
                  (.seq
                    (.reg (law12_awake_r8 F) (some ([0], [])))
                    .ret)))))))))
def law12_awake_k (P : Program) (F : Nat → Nat) : Prop := chkFn P (F 96) 0 (law12_awake_c F) [0] = true
def journal_Plan_r0 : List AOper := [
  ⟨some 3, .box 2 (.t 0), none⟩,
  ⟨some 6, .val (.mov (.k (.nil 3))), none⟩,
  ⟨some 7, .val (.mov (.k (.int .i64 0))), none⟩]
def journal_Plan_r1 (F : Nat → Nat) : List AOper := [
  ⟨some 11, .val (.loadA 2 (.t 3)), none⟩,
  ⟨some 12, .call (F 117) [(.t 11)], none⟩,
  ⟨some 13, .val (.not (.t 12)), none⟩,
  ⟨some 14, .val (.mov (.t 13)), none⟩,
  ⟨some 15, .val (.mov (.t 1)), some (14, false)⟩,
  ⟨some 16, .call (F 118) [(.t 15)], some (14, false)⟩,
  ⟨some 17, .val (.not (.t 16)), some (14, false)⟩,
  ⟨some 18, .val (.por (.t 14) (.t 17)), none⟩,
  ⟨some 19, .val (.mov (.t 18)), none⟩,
  ⟨some 20, .val (.mov (.t 2)), some (19, false)⟩,
  ⟨some 21, .val (.lenT (.t 20)), some (19, false)⟩,
  ⟨some 22, .val (.bin .neq false (.t 21) (.k (.int .i64 32))), some (19, false)⟩,
  ⟨some 23, .val (.por (.t 19) (.t 22)), none⟩]
def journal_Plan_r2 : List AOper := [
  ⟨some 6, .val (.mov (.k (.nil 3))), none⟩,
  ⟨some 7, .val (.mov (.k (.int .i64 1))), none⟩]
def journal_Plan_r3 : List AOper := [
  ⟨some 24, .val (.mov (.t 2)), none⟩,
  ⟨some 25, .val (.slT (.t 24) none (some (.k (.int .i64 16)))), none⟩,
  ⟨some 26, .val (.mov (.t 2)), none⟩,
  ⟨some 27, .val (.slT (.t 26) (some (.k (.int .i64 16))) none), none⟩,
  ⟨some 8, .val (.mov (.t 25)), none⟩,
  ⟨some 9, .val (.mov (.t 27)), none⟩]
def journal_Plan_r4 (F : Nat → Nat) : List AOper := [
  ⟨some 28, .val (.mov (.t 8)), none⟩,
  ⟨some 29, .val (.mov (.t 9)), none⟩,
  ⟨some 30, .call (F 119) [(.k (.int .i64 1)), (.t 28), (.t 29)], none⟩,
  ⟨some 10, .val (.mov (.t 30)), none⟩]
def journal_Plan_r5 (F : Nat → Nat) : List AOper := [
  ⟨some 31, .val (.mov (.t 10)), none⟩,
  ⟨some 32, .val (.mov (.t 1)), none⟩,
  ⟨some 33, .call (F 120) [(.t 32)], none⟩,
  ⟨some 34, .call (F 121) [(.t 33)], none⟩,
  ⟨some 35, .app 3 32 (.t 31) (.t 34), none⟩,
  ⟨some 10, .val (.mov (.t 35)), none⟩]
def journal_Plan_r6 (F : Nat → Nat) : List AOper := [
  ⟨some 36, .val (.mov (.t 10)), none⟩,
  ⟨some 37, .val (.mov (.t 1)), none⟩,
  ⟨some 38, .call (F 122) [(.t 37)], none⟩,
  ⟨some 39, .val (.mov (.t 8)), none⟩,
  ⟨some 40, .val (.mov (.t 9)), none⟩,
  ⟨some 41, .call (F 119) [(.t 38), (.t 39), (.t 40)], none⟩,
  ⟨some 42, .app 3 32 (.t 36) (.t 41), none⟩,
  ⟨some 10, .val (.mov (.t 42)), none⟩]
def journal_Plan_r7 (F : Nat → Nat) : List AOper := [
  ⟨some 43, .val (.mov (.t 10)), none⟩,
  ⟨some 44, .call (F 121) [(.k (.str [0, 0, 0, 0, 0, 0, 0, 0, 0, 0, 0, 0, 0, 0, 0, 0]))], none⟩,
  ⟨some 45, .app 3 32 (.t 43) (.t 44), none⟩,
  ⟨some 10, .val (.mov (.t 45)), none⟩]
def journal_Plan_r8 : List AOper := [
  ⟨some 46, .val (.mov (.t 10)), none⟩,
  ⟨some 6, .val (.mov (.t 46)), none⟩,
  ⟨some 7, .val (.mov (.k (.int .i64 0))), none⟩]
def journal_Plan_c (F : Nat → Nat) : ACode :=
  (.seq
    (.reg journal_Plan_r0 (some ([1, 2, 3], [3, 35, 42, 45, 1030, 1034, 1041, 1044])))
    (.seq
      (.seq
        (.reg (journal_Plan_r1 F) (some ([1, 2, 23], [35, 42, 45, 1030, 1034, 1041, 1044])))
        (.cond (.t 23)
          (.seq
            (.reg journal_Plan_r2 (some ([6, 7], [35, 42, 45, 1030, 1034, 1041, 1044])))
            .ret)
          .skip))
      (.seq
        (.regD journal_Plan_r3 [] (some ([1, 8, 9], [35, 42, 45, 1030, 1034, 1041, 1044])))
        (.seq
          (.reg (journal_Plan_r4 F) (some ([1, 8, 9, 10], [35, 42, 45, 1030, 1034, 1041, 1044])))
          (.seq
            (.reg (journal_Plan_r5 F) (some ([1, 8, 9, 10], [35, 42, 45, 1030, 1034, 1041, 1044])))
            (.seq
              (.reg (journal_Plan_r6 F) (some ([10], [35, 42, 45, 1030, 1034, 1041, 1044])))
              (.seq
                (.reg (journal_Plan_r7 F) (some ([10], [35, 42, 45, 1030, 1034, 1041, 1044])))
                (.seq
                  (.reg journal_Plan_r8 (some ([6, 7], [35, 42, 45, 1030, 1034, 1041, 1044])))
                  .ret))))))))
def journal_Plan_k (P : Program) (F : Nat → Nat) : Prop := chkFn P (F 97) 3 (journal_Plan_c F) [6, 7] = true
def journal_Commit_r0 : List AOper := [
  ⟨some 3, .box 2 (.t 0), none⟩,
  ⟨some 6, .alloc 2 [.nil 1, .nil 2], none⟩,
  ⟨some 7, .val (.mov (.k (.int .i64 0))), none⟩]
def journal_Commit_r1 (F : Nat → Nat) : List AOper := [
  ⟨some 11, .val (.loadA 2 (.t 3)), none⟩,
  ⟨some 12, .val (.mov (.t 1)), none⟩,
  ⟨some 13, .val (.mov (.t 2)), none⟩,
  ⟨some 14, .call (F 97) [(.t 11), (.t 12), (.t 13)], none⟩,
  ⟨some 10, .val (.mov (.t 14)), none⟩,
  ⟨some 15, .val (.extr 0 (.t 10)), none⟩,
  ⟨some 16, .val (.extr 1 (.t 10)), none⟩,
  ⟨some 8, .val (.mov (.t 15)), none⟩,
  ⟨some 9, .val (.mov (.t 16)), none⟩]
def journal_Commit_r2 : List AOper := [
  ⟨some 17, .val (.mov (.t 9)), none⟩,
  ⟨some 18, .val (.bin .neq false (.t 17) (.k (.int .i64 0))), none⟩]
def journal_Commit_r3 : List AOper := [
  ⟨some 19, .val (.loadA 2 (.t 3)), none⟩,
  ⟨some 20, .val (.mov (.t 9)), none⟩,
  ⟨none, .stA true 2 (.t 6) (.t 19), none⟩,
  ⟨some 7, .val (.mov (.t 20)), none⟩]
def journal_Commit_r4 (F : Nat → Nat) : List AOper := [
  ⟨some 21, .val (.loadA 2 (.t 3)), none⟩,
  ⟨some 22, .val (.mov (.t 8)), none⟩,
  ⟨some 23, .val (.mov (.t 8)), none⟩,
  ⟨some 24, .val (.lenS (.t 23)), none⟩,
  ⟨some 25, .call (F 111) [(.t 21), (.t 22), (.t 24)], none⟩,
  ⟨none, .stA true 2 (.t 6) (.t 25), none⟩,
  ⟨some 7, .val (.mov (.k (.int .i64 0))), none⟩]
def journal_Commit_c (F : Nat → Nat) : ACode :=
  (.seq
    (.reg journal_Commit_r0 (some ([1, 2, 3, 6], [3, 6])))
    (.seq
      (.reg (journal_Commit_r1 F) (some ([3, 6, 8, 9], [3, 6])))
      (.seq
        (.seq
          (.reg journal_Commit_r2 (some ([3, 6, 8, 9, 18], [3, 6])))
          (.cond (.t 18)
            (.seq
              (.reg journal_Commit_r3 (some ([6, 7], [6])))
              .ret)
            .skip))
        (.seq
          (.reg (journal_Commit_r4 F) (some ([6, 7], [6])))
          .ret))))
def journal_Commit_k (P : Program) (F : Nat → Nat) : Prop := chkFn P (F 98) 3 (journal_Commit_c F) [.loadA 2 (.t 6), 7] = true
def journal_Get_r0 : List AOper := [
  ⟨some 2, .box 2 (.t 0), none⟩,
  ⟨some 4, .val (.mov (.k (.str []))), none⟩,
  ⟨some 5, .val (.mov (.k (.int .i64 0))), none⟩]
def journal_Get_r1 (F : Nat → Nat) : List AOper := [
  ⟨some 10, .val (.loadA 2 (.t 2)), none⟩,
  ⟨some 11, .call (F 117) [(.t 10)], none⟩,
  ⟨some 12, .val (.not (.t 11)), none⟩,
  ⟨some 13, .val (.mov (.t 12)), none⟩,
  ⟨some 14, .val (.mov (.t 1)), some (13, false)⟩,
  ⟨some 15, .call (F 118) [(.t 14)], some (13, false)⟩,
  ⟨some 16, .val (.not (.t 15)), some (13, false)⟩,
  ⟨some 17, .val (.por (.t 13) (.t 16)), none⟩]
def journal_Get_r2 : List AOper := [
  ⟨some 4, .val (.mov (.k (.str []))), none⟩,
  ⟨some 5, .val (.mov (.k (.int .i64 1))), none⟩]
def journal_Get_r3 (F : Nat → Nat) : List AOper := [
  ⟨some 19, .val (.loadA 2 (.t 2)), none⟩,
  ⟨some 20, .val (.mov (.t 1)), none⟩,
  ⟨some 21, .call (F 122) [(.t 20)], none⟩,
  ⟨some 22, .call (F 37) [(.t 19), (.t 21)], none⟩,
  ⟨some 18, .val (.mov (.t 22)), none⟩,
  ⟨some 23, .val (.extr 0 (.t 18)), none⟩,
  ⟨some 24, .val (.extr 1 (.t 18)), none⟩,
  ⟨some 6, .val (.mov (.t 23)), none⟩,
  ⟨some 7, .val (.mov (.t 24)), none⟩]
def journal_Get_r4 (F : Nat → Nat) : List AOper := [
  ⟨some 26, .val (.loadA 2 (.t 2)), none⟩,
  ⟨some 27, .val (.mov (.t 1)), none⟩,
  ⟨some 28, .call (F 122) [(.t 27)], none⟩,
  ⟨some 29, .val (.bin .add true (.t 28) (.k (.int .i64 1))), none⟩,
  ⟨some 30, .call (F 37) [(.t 26), (.t 29)], none⟩,
  ⟨some 25, .val (.mov (.t 30)), none⟩,
  ⟨some 31, .val (.extr 0 (.t 25)), none⟩,
  ⟨some 32, .val (.extr 1 (.t 25)), none⟩,
  ⟨some 8, .val (.mov (.t 31)), none⟩,
  ⟨some 9, .val (.mov (.t 32)), none⟩]
def journal_Get_r5 : List AOper := [
  ⟨some 33, .val (.mov (.t 6)), none⟩,
  ⟨some 34, .val (.mov (.t 8)), none⟩,
  ⟨some 35, .val (.bin .add false (.t 33) (.t 34)), none⟩,
  ⟨some 4, .val (.mov (.t 35)), none⟩,
  ⟨some 5, .val (.mov (.k (.int .i64 0))), none⟩]
def journal_Get_c (F : Nat → Nat) : ACode :=
  (.seq
    (.reg journal_Get_r0 (some ([1, 2], [2])))
    (.seq
      (.seq
        (.reg (journal_Get_r1 F) (some ([1, 2, 17], [2])))
        (.cond (.t 17)
          (.seq
            (.reg journal_Get_r2 (some ([4, 5], [])))
            .ret)
          .skip))
      (.seq
        (.regD (journal_Get_r3 F) [(0, 2)] (some ([1, 2, 6], [2])))
        (.seq
          (.regD (journal_Get_r4 F) [(0, 2)] (some ([6, 8], [])))
          (.seq
            (.reg journal_Get_r5 (some ([4, 5], [])))
            .ret)))))
def journal_Get_k (P : Program) (F : Nat → Nat) : Prop := chkFn P (F 99) 2 (journal_Get_c F) [4, 5] = true
def ref12_May_r0 : List AOper := [
  ⟨some 1, .box 2 (.t 0), none⟩,
  ⟨some 2, .val (.mov (.k (.bool false))), none⟩]
def ref12_May_r1 (F : Nat → Nat) : List AOper := [
  ⟨some 3, .val (.loadA 2 (.t 1)), none⟩,
  ⟨some 4, .call (F 32) [(.t 3)], none⟩,
  ⟨some 5, .val (.mov (.t 4)), none⟩,
  ⟨some 6, .val (.field 0 (.t 1)), some (5, true)⟩,
  ⟨some 7, .val (.load1 (.t 6)), some (5, true)⟩,
  ⟨some 8, .val (.lenS (.t 7)), some (5, true)⟩,
  ⟨some 9, .val (.bin .gtr false (.t 8) (.k (.int .i64 34))), some (5, true)⟩,
  ⟨some 10, .val (.pand (.t 5) (.t 9)), none⟩,
  ⟨some 2, .val (.mov (.t 10)), none⟩]
def ref12_May_c (F : Nat → Nat) : ACode :=
  (.seq
    (.reg ref12_May_r0 (some ([1], [1])))
    (.seq
      (.reg (ref12_May_r1 F) (some ([2], [])))
      .ret))
def ref12_May_k (P : Program) (F : Nat → Nat) : Prop := chkFn P (F 100) 1 (ref12_May_c F) [2] = true
def ref12_Get_r0 : List AOper := [
  ⟨some 2, .box 2 (.t 0), none⟩,
  ⟨some 4, .val (.mov (.k (.str []))), none⟩]
def ref12_Get_r1 (F : Nat → Nat) : List AOper := [
  ⟨some 5, .val (.loadA 2 (.t 2)), none⟩,
  ⟨some 6, .val (.mov (.t 1)), none⟩,
  ⟨some 7, .val (.bin .mul true (.k (.int .i64 2)) (.t 6)), none⟩,
  ⟨some 8, .val (.bin .add true (.t 7) (.k (.int .i64 1))), none⟩,
  ⟨some 9, .call (F 44) [(.t 5), (.t 8)], none⟩,
  ⟨some 10, .val (.loadA 2 (.t 2)), none⟩,
  ⟨some 11, .val (.mov (.t 1)), none⟩,
  ⟨some 12, .val (.bin .mul true (.k (.int .i64 2)) (.t 11)), none⟩,
  ⟨some 13, .val (.bin .add true (.t 12) (.k (.int .i64 2))), none⟩,
  ⟨some 14, .call (F 44) [(.t 10), (.t 13)], none⟩,
  ⟨some 15, .val (.bin .add false (.t 9) (.t 14)), none⟩,
  ⟨some 4, .val (.mov (.t 15)), none⟩]
def ref12_Get_c (F : Nat → Nat) : ACode :=
  (.seq
    (.reg ref12_Get_r0 (some ([1, 2], [2])))
    (.seq
      (.regD (ref12_Get_r1 F) [(4, 5), (4, 6), (4, 7), (4, 8)] (some ([4], [])))
      .ret))
def ref12_Get_k (P : Program) (F : Nat → Nat) : Prop := chkFn P (F 101) 2 (ref12_Get_c F) [4] = true
def ref12_Plan_r0 : List AOper := [
  ⟨some 4, .val (.mov (.k (.nil 3))), none⟩]
def ref12_Plan_r1 : List AOper := [
  ⟨some 8, .val (.mov (.t 1)), none⟩,
  ⟨some 9, .val (.slT (.t 8) none (some (.k (.int .i64 16)))), none⟩,
  ⟨some 10, .val (.mov (.t 1)), none⟩,
  ⟨some 11, .val (.slT (.t 10) (some (.k (.int .i64 16))) none), none⟩,
  ⟨some 5, .val (.mov (.t 9)), none⟩,
  ⟨some 6, .val (.mov (.t 11)), none⟩]
def ref12_Plan_r2 : List AOper := [
  ⟨some 12, .val (.mov (.t 0)), none⟩,
  ⟨some 13, .val (.bin .mul true (.k (.int .i64 2)) (.t 12)), none⟩,
  ⟨some 14, .val (.bin .add true (.t 13) (.k (.int .i64 1))), none⟩,
  ⟨some 7, .val (.mov (.t 14)), none⟩]
def ref12_Plan_r3 (F : Nat → Nat) : List AOper := [
  ⟨some 15, .val (.mov (.t 5)), none⟩,
  ⟨some 16, .call (F 123) [(.k (.int .i64 1)), (.t 15)], none⟩,
  ⟨some 17, .val (.mov (.t 6)), none⟩,
  ⟨some 18, .call (F 123) [(.k (.int .i64 2)), (.t 17)], none⟩,
  ⟨some 19, .val (.build 3 [.bool false, .int .i64 0, .str []] [(0, 1, (.k (.bool true)))]), none⟩,
  ⟨some 20, .val (.mov (.t 0)), none⟩,
  ⟨some 21, .val (.conv false .u8 (.t 20)), none⟩,
  ⟨some 22, .buildS 1 2 [.int .u8 0] [(0, (.k (.int .u8 74))), (1, (.t 21))], none⟩,
  ⟨some 23, .val (.b2s (.t 22)), none⟩,
  ⟨some 24, .call (F 124) [(.t 23)], none⟩,
  ⟨some 25, .call (F 123) [(.k (.int .i64 0)), (.t 24)], none⟩,
  ⟨some 26, .val (.build 3 [.bool false, .int .i64 0, .str []] [(0, 1, (.k (.bool true)))]), none⟩,
  ⟨some 27, .val (.mov (.t 7)), none⟩,
  ⟨some 28, .val (.mov (.t 5)), none⟩,
  ⟨some 29, .call (F 123) [(.t 27), (.t 28)], none⟩,
  ⟨some 30, .val (.mov (.t 7)), none⟩,
  ⟨some 31, .val (.bin .add true (.t 30) (.k (.int .i64 1))), none⟩,
  ⟨some 32, .val (.mov (.t 6)), none⟩,
  ⟨some 33, .call (F 123) [(.t 31), (.t 32)], none⟩,
  ⟨some 34, .val (.build 3 [.bool false, .int .i64 0, .str []] [(0, 1, (.k (.bool true)))]), none⟩,
  ⟨some 35, .call (F 124) [(.k (.str []))], none⟩,
  ⟨some 36, .call (F 123) [(.k (.int .i64 0)), (.t 35)], none⟩,
  ⟨some 37, .val (.build 3 [.bool false, .int .i64 0, .str []] [(0, 1, (.k (.bool true)))]), none⟩,
  ⟨some 38, .buildS 3 10 [.bool false, .int .i64 0, .str []] [(0, (.t 16)), (1, (.t 18)), (2, (.t 19)), (3, (.t 25)), (4, (.t 26)), (5, (.t 29)), (6, (.t 33)), (7, (.t 34)), (8, (.t 36)), (9, (.t 37))], none⟩,
  ⟨some 4, .val (.mov (.t 38)), none⟩]
def ref12_Plan_c (F : Nat → Nat) : ACode :=
  (.seq
    (.reg ref12_Plan_r0 (some ([0, 1], [22, 38])))
    (.seq
      (.regD ref12_Plan_r1 [] (some ([0, 5, 6], [22, 38])))
      (.seq
        (.reg ref12_Plan_r2 (some ([0, 5, 6, 7], [22, 38])))
        (.seq
          (.regD (ref12_Plan_r3 F) [(1, 2), (1, 4), (3, 4), (1, 5), (3, 5), (1, 6), (3, 6), (0, 7), (1, 7), (2, 7), (3, 7), (4, 7), (1, 8), (3, 8), (4, 9), (4, 10), (1, 11), (3, 11), (7, 11), (9, 11), (10, 11), (1, 12), (3, 12), (7, 12), (9, 12), (10, 12), (1, 13), (3, 13), (7, 13), (9, 13), (10, 13), (4, 14), (11, 14), (1, 15), (3, 15), (7, 15), (9, 15), (10, 15), (14, 15), (1, 16), (3, 16), (7, 16), (9, 16), (10, 16), (14, 16), (1, 17), (3, 17), (7, 17), (9, 17), (10, 17), (14, 17), (4, 18), (11, 18), (1, 19), (3, 19), (7, 19), (9, 19), (10, 19), (14, 19), (18, 19), (4, 20), (11, 20), (19, 20), (4, 21), (11, 21), (19, 21), (1, 22), (3, 22), (7, 22), (9, 22), (10, 22), (14, 22), (18, 22), (20, 22), (21, 22)] (some ([4], [22, 38])))
          .ret))))
def ref12_Plan_k (P : Program) (F : Nat → Nat) : Prop := chkFn P (F 102) 2 (ref12_Plan_c F) [4] = true
def ref12_Same_r0 : List AOper := [
  ⟨some 4, .val (.mov (.k (.bool false))), none⟩]
def ref12_Same_r1 : List AOper := [
  ⟨some 6, .val (.mov (.t 0)), none⟩,
  ⟨some 7, .val (.lenS (.t 6)), none⟩,
  ⟨some 8, .val (.mov (.t 1)), none⟩,
  ⟨some 9, .val (.lenS (.t 8)), none⟩,
  ⟨some 10, .val (.bin .neq false (.t 7) (.t 9)), none⟩]
def ref12_Same_r2 : List AOper := [
  ⟨some 4, .val (.mov (.k (.bool false))), none⟩]
def ref12_Same_r3 : List AOper := [
  ⟨some 5, .val (.mov (.k (.int .i64 0))), none⟩]
def ref12_Same_r4 : List AOper := [
  ⟨some 11, .val (.mov (.t 5)), none⟩,
  ⟨some 12, .val (.mov (.t 0)), none⟩,
  ⟨some 13, .val (.lenS (.t 12)), none⟩,
  ⟨some 14, .val (.bin .lss false (.t 11) (.t 13)), none⟩]
def ref12_Same_r6 : List AOper := [
  ⟨some 17, .val (.mov (.t 0)), none⟩,
  ⟨some 18, .val (.mov (.t 5)), none⟩,
  ⟨some 19, .val (.ixS 3 (.t 17) (.t 18)), none⟩,
  ⟨some 20, .val (.loadA 3 (.t 19)), none⟩,
  ⟨some 21, .val (.mov (.t 1)), none⟩,
  ⟨some 22, .val (.mov (.t 5)), none⟩,
  ⟨some 23, .val (.ixS 3 (.t 21) (.t 22)), none⟩,
  ⟨some 24, .val (.loadA 3 (.t 23)), none⟩,
  ⟨some 25, .val (.eqA true [1, 0, 2] (.t 20) (.t 24)), none⟩]
def ref12_Same_r7 : List AOper := [
  ⟨some 4, .val (.mov (.k (.bool false))), none⟩]
def ref12_Same_r5 : List AOper := [
  ⟨some 15, .val (.mov (.t 5)), none⟩,
  ⟨some 16, .val (.bin .add true (.t 15) (.k (.int .i64 1))), none⟩,
  ⟨some 5, .val (.mov (.t 16)), none⟩]
def ref12_Same_r8 : List AOper := [
  ⟨some 4, .val (.mov (.k (.bool true))), none⟩]
def ref12_Same_c : ACode :=
  (.seq
    (.reg ref12_Same_r0 (some ([0, 1], [])))
    (.seq
      (.seq
        (.reg ref12_Same_r1 (some ([0, 1, 10], [])))
        (.cond (.t 10)
          (.seq
            (.reg ref12_Same_r2 (some ([4], [])))
            .ret)
          .skip))
      (.seq
        (.seq
          (.reg ref12_Same_r3 (some ([0, 1, 5], [])))
          (.block 0
            (.loop
              (.seq
                (.seq
                  (.reg ref12_Same_r4 (some ([0, 1, 5, 14], [])))
                  (.cond (.t 14)
                    .skip
                    (.exit 0)))
                (.seq
                  (.block 1
                    (.seq
                      (.regD ref12_Same_r6 [] (some ([0, 1, 5, 25], [])))
                      (.cond (.t 25)
                        (.seq
                          (.reg ref12_Same_r7 (some ([4], [])))
                          .ret)
                        .skip)))
                  (.reg ref12_Same_r5 (some ([0, 1, 5], []))))))))
        (.seq
          (.reg ref12_Same_r8 (some ([4], [])))
          .ret))))
def ref12_Same_k (P : Program) (F : Nat → Nat) : Prop := chkFn P (F 104) 2 (ref12_Same_c) [4] = true
def law12_refs_r0 : List AOper := [
  ⟨some 2, .val (.mov (.k (.nil 3))), none⟩]
def law12_refs_r1 : List AOper := [
  ⟨some 3, .val (.mov (.k (.nil 3))), none⟩]
def law12_refs_r2 : List AOper := [
  ⟨some 6, .val (.mov (.t 0)), none⟩,
  ⟨some 7, .val (.lenS (.t 6)), none⟩,
  ⟨some 8, .val (.mov (.k (.int .i64 0))), none⟩]
def law12_refs_r3 : List AOper := [
  ⟨some 9, .val (.bin .lss false (.t 8) (.t 7)), none⟩]
def law12_refs_r4 : List AOper := [
  ⟨some 10, .val (.ixS 3 (.t 6) (.t 8)), none⟩,
  ⟨some 11, .val (.loadA 3 (.t 10)), none⟩,
  ⟨some 5, .alloc 3 [.bool false, .int .i64 0, .str []], none⟩,
  ⟨none, .stA true 3 (.t 5) (.t 11), none⟩]
def law12_refs_r5 : List AOper := [
  ⟨some 12, .val (.mov (.t 3)), none⟩,
  ⟨some 13, .val (.loadA 3 (.t 5)), none⟩,
  ⟨some 14, .buildS 3 1 [.bool false, .int .i64 0, .str []] [(0, (.t 13))], none⟩,
  ⟨some 15, .app 3 32 (.t 12) (.t 14), none⟩,
  ⟨some 3, .val (.mov (.t 15)), none⟩]
def law12_refs_r6 : List AOper := [
  ⟨some 16, .val (.bin .add true (.t 8) (.k (.int .i64 1))), none⟩,
  ⟨some 8, .val (.mov (.t 16)), none⟩]
def law12_refs_r7 : List AOper := [
  ⟨some 17, .val (.mov (.t 3)), none⟩,
  ⟨some 2, .val (.mov (.t 17)), none⟩]
def law12_refs_c : ACode :=
  (.seq
    (.reg law12_refs_r0 (some ([0], [14, 15])))
    (.seq
      (.reg law12_refs_r1 (some ([0, 3], [14, 15])))
      (.seq
        (.seq
          (.reg law12_refs_r2 (some ([3, 6, 7, 8], [14, 15])))
          (.block 0
            (.loop
              (.seq
                (.reg law12_refs_r3 (some ([3, 6, 7, 8, 9], [14, 15])))
                (.seq
                  (.cond (.t 9)
                    .skip
                    (.exit 0))
                  (.seq
                    (.block 1
                      (.seq
                        (.reg law12_refs_r4 (some ([3, 5, 6, 7, 8], [5, 14, 15])))
                        (.reg law12_refs_r5 (some ([3, 6, 7, 8], [14, 15])))))
                    (.reg law12_refs_r6 (some ([3, 6, 7, 8], [14, 15])))))))))
        (.seq
          (.reg law12_refs_r7 (some ([2], [14, 15])))
          .ret))))
def law12_refs_k (P : Program) (F : Nat → Nat) : Prop := chkFn P (F 103) 1 (law12_refs_c) [2] = true
def ref12_Run_r0 : List AOper := [
  ⟨some 3, .box 2 (.t 0), none⟩,
  ⟨some 6, .alloc 2 [.nil 1, .nil 2], none⟩]
def ref12_Run_r1 : List AOper := [
  ⟨some 7, .val (.mov (.k (.int .i64 0))), none⟩]
def ref12_Run_r2 : List AOper := [
  ⟨some 10, .val (.mov (.t 7)), none⟩,
  ⟨some 11, .val (.mov (.t 1)), none⟩,
  ⟨some 12, .val (.lenS (.t 11)), none⟩,
  ⟨some 13, .val (.bin .lss false (.t 10) (.t 12)), none⟩,
  ⟨some 14, .val (.mov (.t 13)), none⟩,
  ⟨some 15, .val (.mov (.t 7)), some (14, true)⟩,
  ⟨some 16, .val (.mov (.t 2)), some (14, true)⟩,
  ⟨some 17, .val (.bin .lss false (.t 15) (.t 16)), some (14, true)⟩,
  ⟨some 18, .val (.pand (.t 14) (.t 17)), none⟩]
def ref12_Run_r4 : List AOper := [
  ⟨some 21, .val (.mov (.t 1)), none⟩,
  ⟨some 22, .val (.mov (.t 7)), none⟩,
  ⟨some 23, .val (.ixS 3 (.t 21) (.t 22)), none⟩,
  ⟨some 24, .val (.field 1 (.t 23)), none⟩,
  ⟨some 25, .val (.loadA 2 (.t 24)), none⟩,
  ⟨some 8, .alloc 2 [.int .i64 0, .str []], none⟩,
  ⟨none, .stA true 2 (.t 8) (.t 25), none⟩]
def ref12_Run_r5 : List AOper := [
  ⟨some 26, .val (.mov (.t 1)), none⟩,
  ⟨some 27, .val (.mov (.t 7)), none⟩,
  ⟨some 28, .val (.ixS 3 (.t 26) (.t 27)), none⟩,
  ⟨some 29, .val (.field 0 (.t 28)), none⟩,
  ⟨some 30, .val (.load1 (.t 29)), none⟩]
def ref12_Run_r6 (F : Nat → Nat) : List AOper := [
  ⟨some 31, .val (.loadA 2 (.t 3)), none⟩,
  ⟨some 32, .call (F 32) [(.t 31)], none⟩]
def ref12_Run_r7 (F : Nat → Nat) : List AOper := [
  ⟨some 33, .val (.loadA 2 (.t 3)), none⟩,
  ⟨some 34, .call (F 42) [(.t 33)], none⟩,
  ⟨none, .stA true 2 (.t 3) (.t 34), none⟩]
def ref12_Run_r8 (F : Nat → Nat) : List AOper := [
  ⟨some 35, .val (.loadA 2 (.t 3)), none⟩,
  ⟨some 36, .call (F 32) [(.t 35)], none⟩,
  ⟨some 37, .val (.mov (.t 36)), none⟩,
  ⟨some 38, .val (.field 0 (.t 8)), some (37, true)⟩,
  ⟨some 39, .val (.load1 (.t 38)), some (37, true)⟩,
  ⟨some 40, .val (.bin .geq false (.t 39) (.k (.int .i64 0))), some (37, true)⟩,
  ⟨some 41, .val (.pand (.t 37) (.t 40)), none⟩,
  ⟨some 42, .val (.mov (.t 41)), none⟩,
  ⟨some 43, .val (.field 0 (.t 8)), some (42, true)⟩,
  ⟨some 44, .val (.load1 (.t 43)), some (42, true)⟩,
  ⟨some 45, .val (.field 0 (.t 3)), some (42, true)⟩,
  ⟨some 46, .val (.load1 (.t 45)), some (42, true)⟩,
  ⟨some 47, .val (.lenS (.t 46)), some (42, true)⟩,
  ⟨some 48, .val (.bin .lss false (.t 44) (.t 47)), some (42, true)⟩,
  ⟨some 49, .val (.pand (.t 42) (.t 48)), none⟩,
  ⟨some 50, .val (.mov (.t 49)), none⟩,
  ⟨some 51, .val (.field 1 (.t 8)), some (50, true)⟩,
  ⟨some 52, .val (.load1 (.t 51)), some (50, true)⟩,
  ⟨some 53, .val (.lenT (.t 52)), some (50, true)⟩,
  ⟨some 54, .val (.bin .eql false (.t 53) (.k (.int .i64 16))), some (50, true)⟩,
  ⟨some 55, .val (.pand (.t 50) (.t 54)), none⟩,
  ⟨some 56, .val (.mov (.t 55)), none⟩,
  ⟨some 57, .val (.field 1 (.t 3)), some (56, true)⟩,
  ⟨some 58, .val (.load1 (.t 57)), some (56, true)⟩,
  ⟨some 59, .val (.lenS (.t 58)), some (56, true)⟩,
  ⟨some 60, .val (.bin .lss false (.t 59) (.k (.int .i64 200))), some (56, true)⟩,
  ⟨some 61, .val (.pand (.t 56) (.t 60)), none⟩]
def ref12_Run_r9 : List AOper := [
  ⟨some 9, .val (.mov (.k (.nil 2))), none⟩]
def ref12_Run_r10 : List AOper := [
  ⟨some 62, .val (.mov (.t 9)), none⟩,
  ⟨some 63, .val (.field 1 (.t 3)), none⟩,
  ⟨some 64, .val (.load1 (.t 63)), none⟩,
  ⟨some 65, .app 2 24 (.t 62) (.t 64), none⟩,
  ⟨some 9, .val (.mov (.t 65)), none⟩]
def ref12_Run_r11 : List AOper := [
  ⟨some 66, .val (.field 0 (.t 3)), none⟩,
  ⟨some 67, .val (.load1 (.t 66)), none⟩,
  ⟨some 68, .val (.mov (.t 9)), none⟩,
  ⟨some 69, .val (.loadA 2 (.t 8)), none⟩,
  ⟨some 70, .buildS 2 1 [.int .i64 0, .str []] [(0, (.t 69))], none⟩,
  ⟨some 71, .app 2 24 (.t 68) (.t 70), none⟩,
  ⟨some 72, .val (.build 2 [.nil 1, .nil 2] [(0, 1, (.t 67)), (1, 1, (.t 71))]), none⟩,
  ⟨none, .stA true 2 (.t 3) (.t 72), none⟩]
def ref12_Run_r3 : List AOper := [
  ⟨some 19, .val (.mov (.t 7)), none⟩,
  ⟨some 20, .val (.bin .add true (.t 19) (.k (.int .i64 1))), none⟩,
  ⟨some 7, .val (.mov (.t 20)), none⟩]
def ref12_Run_r12 : List AOper := [
  ⟨some 73, .val (.loadA 2 (.t 3)), none⟩,
  ⟨none, .stA true 2 (.t 6) (.t 73), none⟩]
def ref12_Run_c (F : Nat → Nat) : ACode :=
  (.seq
    (.reg ref12_Run_r0 (some ([1, 2, 3, 6], [3, 6, 65, 70, 71])))
    (.seq
      (.seq
        (.reg ref12_Run_r1 (some ([1, 2, 3, 6, 7], [3, 6, 65, 70, 71])))
        (.block 0
          (.loop
            (.seq
              (.seq
                (.reg ref12_Run_r2 (some ([1, 2, 3, 6, 7, 18], [3, 6, 65, 70, 71])))
                (.cond (.t 18)
                  .skip
                  (.exit 0)))
              (.seq
                (.block 1
                  (.seq
                    (.reg ref12_Run_r4 (some ([1, 2, 3, 6, 7, 8], [3, 6, 8, 65, 70, 71])))
                    (.seq
                      (.seq
                        (.reg ref12_Run_r5 (some ([1, 2, 3, 6, 7, 8, 30], [3, 6, 8, 65, 70, 71])))
                        (.cond (.t 30)
                          (.seq
                            (.seq
                              (.reg (ref12_Run_r6 F) (some ([1, 2, 3, 6, 7, 32], [3, 6, 65, 70, 71])))
                              (.cond (.t 32)
                                (.reg (ref12_Run_r7 F) (some ([1, 2, 3, 6, 7], [3, 6, 65, 70, 71])))
                                .skip))
                            (.exit 1))
                          .skip))
                      (.seq
                        (.reg (ref12_Run_r8 F) (some ([1, 2, 3, 6, 7, 8, 61], [3, 6, 8, 65, 70, 71])))
                        (.cond (.t 61)
                          (.seq
                            (.reg ref12_Run_r9 (some ([1, 2, 3, 6, 7, 8, 9], [3, 6, 8, 65, 70, 71])))
                            (.seq
                              (.reg ref12_Run_r10 (some ([1, 2, 3, 6, 7, 8, 9], [3, 6, 8, 65, 70, 71])))
                              (.regD ref12_Run_r11 [(0, 4), (1, 4), (2, 4), (0, 5), (1, 5)] (some ([1, 2, 3, 6, 7], [3, 6, 65, 70, 71])))))
                          .skip)))))
                (.reg ref12_Run_r3 (some ([1, 2, 3, 6, 7], [3, 6, 65, 70, 71]))))))))
      (.seq
        (.reg ref12_Run_r12 (some ([6], [6, 65, 70, 71])))
        .ret)))
def ref12_Run_k (P : Program) (F : Nat → Nat) : Prop := chkFn P (F 105) 3 (ref12_Run_c F) [.loadA 2 (.t 6)] = true
def journal_Repair_r0 : List AOper := [
  ⟨some 1, .box 2 (.t 0), none⟩,
  ⟨some 2, .val (.mov (.k (.nil 3))), none⟩]
def journal_Repair_r1 (F : Nat → Nat) : List AOper := [
  ⟨some 12, .val (.loadA 2 (.t 1)), none⟩,
  ⟨some 13, .call (F 117) [(.t 12)], none⟩,
  ⟨some 14, .val (.not (.t 13)), none⟩]
def journal_Repair_r2 : List AOper := [
  ⟨some 2, .val (.mov (.k (.nil 3))), none⟩]
def journal_Repair_r3 (F : Nat → Nat) : List AOper := [
  ⟨some 16, .val (.loadA 2 (.t 1)), none⟩,
  ⟨some 17, .call (F 37) [(.t 16), (.k (.int .i64 0))], none⟩,
  ⟨some 15, .val (.mov (.t 17)), none⟩,
  ⟨some 18, .val (.extr 0 (.t 15)), none⟩,
  ⟨some 19, .val (.extr 1 (.t 15)), none⟩,
  ⟨some 3, .val (.mov (.t 18)), none⟩,
  ⟨some 4, .val (.mov (.t 19)), none⟩]
def journal_Repair_r4 : List AOper := [
  ⟨some 20, .val (.mov (.t 3)), none⟩,
  ⟨some 21, .val (.bin .eql false (.t 20) (.k (.str [0, 0, 0, 0, 0, 0, 0, 0, 0, 0, 0, 0, 0, 0, 0, 0]))), none⟩]
def journal_Repair_r5 : List AOper := [
  ⟨some 2, .val (.mov (.k (.nil 3))), none⟩]
def journal_Repair_r6 : List AOper := [
  ⟨some 5, .val (.mov (.k (.nil 3))), none⟩]
def journal_Repair_r7 (F : Nat → Nat) : List AOper := [
  ⟨some 23, .val (.mov (.t 3)), none⟩,
  ⟨some 24, .call (F 125) [(.t 23)], none⟩,
  ⟨some 22, .val (.mov (.t 24)), none⟩,
  ⟨some 25, .val (.extr 0 (.t 22)), none⟩,
  ⟨some 26, .val (.extr 1 (.t 22)), none⟩,
  ⟨some 6, .val (.mov (.t 25)), none⟩,
  ⟨some 7, .val (.mov (.t 26)), none⟩]
def journal_Repair_r8 : List AOper := [
  ⟨some 27, .val (.mov (.t 7)), none⟩]
def journal_Repair_r9 (F : Nat → Nat) : List AOper := [
  ⟨some 29, .val (.loadA 2 (.t 1)), none⟩,
  ⟨some 30, .call (F 37) [(.t 29), (.k (.int .i64 1))], none⟩,
  ⟨some 28, .val (.mov (.t 30)), none⟩,
  ⟨some 31, .val (.extr 0 (.t 28)), none⟩,
  ⟨some 32, .val (.extr 1 (.t 28)), none⟩,
  ⟨some 8, .val (.mov (.t 31)), none⟩,
  ⟨some 9, .val (.mov (.t 32)), none⟩]
def journal_Repair_r10 (F : Nat → Nat) : List AOper := [
  ⟨some 34, .val (.loadA 2 (.t 1)), none⟩,
  ⟨some 35, .call (F 37) [(.t 34), (.k (.int .i64 2))], none⟩,
  ⟨some 33, .val (.mov (.t 35)), none⟩,
  ⟨some 36, .val (.extr 0 (.t 33)), none⟩,
  ⟨some 37, .val (.extr 1 (.t 33)), none⟩,
  ⟨some 10, .val (.mov (.t 36)), none⟩,
  ⟨some 11, .val (.mov (.t 37)), none⟩]
def journal_Repair_r11 (F : Nat → Nat) : List AOper := [
  ⟨some 38, .val (.mov (.t 6)), none⟩,
  ⟨some 39, .call (F 122) [(.t 38)], none⟩,
  ⟨some 40, .val (.mov (.t 8)), none⟩,
  ⟨some 41, .val (.mov (.t 10)), none⟩,
  ⟨some 42, .call (F 119) [(.t 39), (.t 40), (.t 41)], none⟩,
  ⟨some 5, .val (.mov (.t 42)), none⟩]
def journal_Repair_r12 (F : Nat → Nat) : List AOper := [
  ⟨some 43, .val (.mov (.t 5)), none⟩,
  ⟨some 44, .call (F 121) [(.k (.str [0, 0, 0, 0, 0, 0, 0, 0, 0, 0, 0, 0, 0, 0, 0, 0]))], none⟩,
  ⟨some 45, .app 3 32 (.t 43) (.t 44), none⟩,
  ⟨some 2, .val (.mov (.t 45)), none⟩]
def journal_Repair_c (F : Nat → Nat) : ACode :=
  (.seq
    (.reg journal_Repair_r0 (some ([1], [1, 45, 1042, 1044])))
    (.seq
      (.seq
        (.reg (journal_Repair_r1 F) (some ([1, 14], [1, 45, 1042, 1044])))
        (.cond (.t 14)
          (.seq
            (.reg journal_Repair_r2 (some ([2], [45, 1042, 1044])))
            .ret)
          .skip))
      (.seq
        (.reg (journal_Repair_r3 F) (some ([1, 3], [1, 45, 1042, 1044])))
        (.seq
          (.seq
            (.reg journal_Repair_r4 (some ([1, 3, 21], [1, 45, 1042, 1044])))
            (.cond (.t 21)
              (.seq
                (.reg journal_Repair_r5 (some ([2], [45, 1042, 1044])))
                .ret)
              .skip))
          (.seq
            (.reg journal_Repair_r6 (some ([1, 3, 5], [1, 45, 1042, 1044])))
            (.seq
              (.seq
                (.reg (journal_Repair_r7 F) (some ([1, 5, 6, 7], [1, 45, 1042, 1044])))
                (.seq
                  (.reg journal_Repair_r8 (some ([1, 5, 6, 27], [1, 45, 1042, 1044])))
                  (.cond (.t 27)
                    (.seq
                      (.reg (journal_Repair_r9 F) (some ([1, 6, 8], [1, 45, 1042, 1044])))
                      (.seq
                        (.reg (journal_Repair_r10 F) (some ([6, 8, 10], [45, 1042, 1044])))
                        (.reg (journal_Repair_r11 F) (some ([5], [45, 1042, 1044])))))
                    .skip)))
              (.seq
                (.reg (journal_Repair_r12 F) (some ([2], [45, 1042, 1044])))
                .ret)))))))
def journal_Repair_k (P : Program) (F : Nat → Nat) : Prop := chkFn P (F 107) 1 (journal_Repair_c F) [2] = true
def journal_Recover_r0 : List AOper := [
  ⟨some 1, .box 2 (.t 0), none⟩,
  ⟨some 2, .alloc 2 [.nil 1, .nil 2], none⟩]
def journal_Recover_r1 (F : Nat → Nat) : List AOper := [
  ⟨some 4, .val (.loadA 2 (.t 1)), none⟩,
  ⟨some 5, .call (F 107) [(.t 4)], none⟩,
  ⟨some 3, .val (.mov (.t 5)), none⟩]
def journal_Recover_r2 (F : Nat → Nat) : List AOper := [
  ⟨some 6, .val (.loadA 2 (.t 1)), none⟩,
  ⟨some 7, .val (.mov (.t 3)), none⟩,
  ⟨some 8, .val (.mov (.t 3)), none⟩,
  ⟨some 9, .val (.lenS (.t 8)), none⟩,
  ⟨some 10, .call (F 111) [(.t 6), (.t 7), (.t 9)], none⟩,
  ⟨none, .stA true 2 (.t 2) (.t 10), none⟩]
def journal_Recover_c (F : Nat → Nat) : ACode :=
  (.seq
    (.reg journal_Recover_r0 (some ([1, 2], [1, 2])))
    (.seq
      (.reg (journal_Recover_r1 F) (some ([1, 2, 3], [1, 2])))
      (.seq
        (.reg (journal_Recover_r2 F) (some ([2], [2])))
        .ret)))
def journal_Recover_k (P : Program) (F : Nat → Nat) : Prop := chkFn P (F 110) 1 (journal_Recover_c F) [.loadA 2 (.t 2)] = true
def journal_Run_r0 : List AOper := [
  ⟨some 3, .box 2 (.t 0), none⟩,
  ⟨some 6, .alloc 2 [.nil 1, .nil 2], none⟩]
def journal_Run_r1 : List AOper := [
  ⟨some 11, .val (.mov (.t 1)), none⟩,
  ⟨some 12, .val (.lenS (.t 11)), none⟩,
  ⟨some 13, .val (.mov (.k (.int .i64 0))), none⟩]
def journal_Run_r2 : List AOper := [
  ⟨some 14, .val (.bin .lss false (.t 13) (.t 12)), none⟩]
def journal_Run_r3 : List AOper := [
  ⟨some 15, .val (.mov (.t 13)), none⟩,
  ⟨some 16, .val (.ixS 3 (.t 11) (.t 13)), none⟩,
  ⟨some 17, .val (.loadA 3 (.t 16)), none⟩,
  ⟨some 8, .alloc 3 [.bool false, .int .i64 0, .str []], none⟩,
  ⟨some 7, .val (.mov (.t 15)), none⟩,
  ⟨none, .stA true 3 (.t 8) (.t 17), none⟩]
def journal_Run_r4 : List AOper := [
  ⟨some 18, .val (.mov (.t 7)), none⟩,
  ⟨some 19, .val (.mov (.t 2)), none⟩,
  ⟨some 20, .val (.bin .geq false (.t 18) (.t 19)), none⟩]
def journal_Run_r5 : List AOper := [
  ⟨some 21, .val (.field 0 (.t 8)), none⟩,
  ⟨some 22, .val (.load1 (.t 21)), none⟩]
def journal_Run_r6 (F : Nat → Nat) : List AOper := [
  ⟨some 23, .val (.loadA 2 (.t 3)), none⟩,
  ⟨some 24, .call (F 41) [(.t 23)], none⟩,
  ⟨none, .stA true 2 (.t 3) (.t 24), none⟩]
def journal_Run_r7 (F : Nat → Nat) : List AOper := [
  ⟨some 26, .val (.loadA 2 (.t 3)), none⟩,
  ⟨some 27, .val (.field 1 (.t 8)), none⟩,
  ⟨some 28, .val (.loadA 2 (.t 27)), none⟩,
  ⟨some 29, .call (F 36) [(.t 26), (.t 28)], none⟩,
  ⟨some 25, .val (.mov (.t 29)), none⟩,
  ⟨some 30, .val (.extr 0 (.t 25)), none⟩,
  ⟨some 31, .val (.extr 1 (.t 25)), none⟩,
  ⟨some 9, .alloc 2 [.nil 1, .nil 2], none⟩,
  ⟨none, .stA true 2 (.t 9) (.t 30), none⟩,
  ⟨some 10, .val (.mov (.t 31)), none⟩]
def journal_Run_r8 : List AOper := [
  ⟨some 32, .val (.mov (.t 10)), none⟩,
  ⟨some 33, .val (.bin .eql false (.t 32) (.k (.int .i64 0))), none⟩]
def journal_Run_r9 : List AOper := [
  ⟨some 34, .val (.loadA 2 (.t 9)), none⟩,
  ⟨none, .stA true 2 (.t 3) (.t 34), none⟩]
def journal_Run_r10 : List AOper := [
  ⟨some 35, .val (.bin .add true (.t 13) (.k (.int .i64 1))), none⟩,
  ⟨some 13, .val (.mov (.t 35)), none⟩]
def journal_Run_r11 : List AOper := [
  ⟨some 36, .val (.loadA 2 (.t 3)), none⟩,
  ⟨none, .stA true 2 (.t 6) (.t 36), none⟩]
def journal_Run_c (F : Nat → Nat) : ACode :=
  (.seq
    (.reg journal_Run_r0 (some ([1, 2, 3, 6], [3, 6])))
    (.seq
      (.seq
        (.reg journal_Run_r1 (some ([2, 3, 6, 11, 12, 13], [3, 6])))
        (.block 0
          (.loop
            (.seq
              (.reg journal_Run_r2 (some ([2, 3, 6, 11, 12, 13, 14], [3, 6])))
              (.seq
                (.cond (.t 14)
                  .skip
                  (.exit 0))
                (.seq
                  (.block 1
                    (.seq
                      (.reg journal_Run_r3 (some ([2, 3, 6, 7, 8, 11, 12, 13], [3, 6, 8])))
                      (.seq
                        (.seq
                          (.reg journal_Run_r4 (some ([2, 3, 6, 8, 11, 12, 13, 20], [3, 6, 8])))
                          (.cond (.t 20)
                            (.exit 0)
                            .skip))
                        (.seq
                          (.seq
                            (.reg journal_Run_r5 (some ([2, 3, 6, 8, 11, 12, 13, 22], [3, 6, 8])))
                            (.cond (.t 22)
                              (.seq
                                (.reg (journal_Run_r6 F) (some ([2, 3, 6, 11, 12, 13], [3, 6])))
                                (.exit 1))
                              .skip))
                          (.seq
                            (.reg (journal_Run_r7 F) (some ([2, 3, 6, 9, 10, 11, 12, 13], [3, 6, 9])))
                            (.seq
                              (.reg journal_Run_r8 (some ([2, 3, 6, 9, 11, 12, 13, 33], [3, 6, 9])))
                              (.cond (.t 33)
                                (.reg journal_Run_r9 (some ([2, 3, 6, 11, 12, 13], [3, 6])))
                                .skip)))))))
                  (.reg journal_Run_r10 (some ([2, 3, 6, 11, 12, 13], [3, 6])))))))))
      (.seq
        (.reg journal_Run_r11 (some ([6], [6])))
        .ret)))
def journal_Run_k (P : Program) (F : Nat → Nat) : Prop := chkFn P (F 111) 3 (journal_Run_c F) [.loadA 2 (.t 6)] = true
def journal_usable_r0 : List AOper := [
  ⟨some 1, .box 2 (.t 0), none⟩,
  ⟨some 2, .val (.mov (.k (.bool false))), none⟩]
def journal_usable_r1 (F : Nat → Nat) : List AOper := [
  ⟨some 3, .val (.loadA 2 (.t 1)), none⟩,
  ⟨some 4, .call (F 40) [(.t 3)], none⟩,
  ⟨some 5, .val (.mov (.t 4)), none⟩,
  ⟨some 6, .val (.field 0 (.t 1)), some (5, true)⟩,
  ⟨some 7, .val (.load1 (.t 6)), some (5, true)⟩,
  ⟨some 8, .val (.lenS (.t 7)), some (5, true)⟩,
  ⟨some 9, .val (.bin .geq false (.t 8) (.k (.int .i64 35))), some (5, true)⟩,
  ⟨some 10, .val (.pand (.t 5) (.t 9)), none⟩,
  ⟨some 2, .val (.mov (.t 10)), none⟩]
def journal_usable_c (F : Nat → Nat) : ACode :=
  (.seq
    (.reg journal_usable_r0 (some ([1], [1])))
    (.seq
      (.reg (journal_usable_r1 F) (some ([2], [])))
      .ret))
def journal_usable_k (P : Program) (F : Nat → Nat) : Prop := chkFn P (F 117) 1 (journal_usable_c F) [2] = true
def journal_valid_r0 : List AOper := [
  ⟨some 2, .val (.mov (.k (.bool false))), none⟩]
def journal_valid_r1 : List AOper := [
  ⟨some 3, .val (.mov (.t 0)), none⟩,
  ⟨some 4, .val (.bin .geq false (.t 3) (.k (.int .i64 1))), none⟩,
  ⟨some 5, .val (.mov (.t 4)), none⟩,
  ⟨some 6, .val (.mov (.t 0)), some (5, true)⟩,
  ⟨some 7, .val (.bin .leq false (.t 6) (.k (.int .i64 16))), some (5, true)⟩,
  ⟨some 8, .val (.pand (.t 5) (.t 7)), none⟩,
  ⟨some 2, .val (.mov (.t 8)), none⟩]
def journal_valid_c : ACode :=
  (.seq
    (.reg journal_valid_r0 (some ([0], [])))
    (.seq
      (.reg journal_valid_r1 (some ([2], [])))
      .ret))
def journal_valid_k (P : Program) (F : Nat → Nat) : Prop := chkFn P (F 118) 1 (journal_valid_c) [2] = true
def journal_halves_r0 : List AOper := [
  ⟨some 6, .val (.mov (.k (.nil 3))), none⟩]
def journal_halves_r1 : List AOper := [
  ⟨some 7, .val (.mov (.t 0)), none⟩,
  ⟨some 8, .val (.mov (.t 1)), none⟩,
  ⟨some 9, .val (.build 2 [.int .i64 0, .str []] [(0, 1, (.t 7)), (1, 1, (.t 8))]), none⟩,
  ⟨some 10, .val (.build 3 [.bool false, .int .i64 0, .str []] [(1, 2, (.t 9))]), none⟩,
  ⟨some 11, .val (.mov (.t 0)), none⟩,
  ⟨some 12, .val (.bin .add true (.t 11) (.k (.int .i64 1))), none⟩,
  ⟨some 13, .val (.mov (.t 2)), none⟩,
  ⟨some 14, .val (.build 2 [.int .i64 0, .str []] [(0, 1, (.t 12)), (1, 1, (.t 13))]), none⟩,
  ⟨some 15, .val (.build 3 [.bool false, .int .i64 0, .str []] [(1, 2, (.t 14))]), none⟩,
  ⟨some 16, .val (.build 3 [.bool false, .int .i64 0, .str []] [(0, 1, (.k (.bool true)))]), none⟩,
  ⟨some 17, .buildS 3 3 [.bool false, .int .i64 0, .str []] [(0, (.t 10)), (1, (.t 15)), (2, (.t 16))], none⟩,
  ⟨some 6, .val (.mov (.t 17)), none⟩]
def journal_halves_c : ACode :=
  (.seq
    (.reg journal_halves_r0 (some ([0, 1, 2], [17])))
    (.seq
      (.reg journal_halves_r1 (some ([6], [17])))
      .ret))
def journal_halves_k (P : Program) (F : Nat → Nat) : Prop := chkFn P (F 119) 3 (journal_halves_c) [6] = true
def journal_top_r0 : List AOper := [
  ⟨some 2, .val (.mov (.k (.nil 3))), none⟩]
def journal_top_r1 : List AOper := [
  ⟨some 3, .val (.mov (.t 0)), none⟩,
  ⟨some 4, .val (.build 2 [.int .i64 0, .str []] [(0, 1, (.k (.int .i64 0))), (1, 1, (.t 3))]), none⟩,
  ⟨some 5, .val (.build 3 [.bool false, .int .i64 0, .str []] [(1, 2, (.t 4))]), none⟩,
  ⟨some 6, .val (.build 3 [.bool false, .int .i64 0, .str []] [(0, 1, (.k (.bool true)))]), none⟩,
  ⟨some 7, .buildS 3 2 [.bool false, .int .i64 0, .str []] [(0, (.t 5)), (1, (.t 6))], none⟩,
  ⟨some 2, .val (.mov (.t 7)), none⟩]
def journal_top_c : ACode :=
  (.seq
    (.reg journal_top_r0 (some ([0], [7])))
    (.seq
      (.reg journal_top_r1 (some ([2], [7])))
      .ret))
def journal_top_k (P : Program) (F : Nat → Nat) : Prop := chkFn P (F 121) 1 (journal_top_c) [2] = true
def journal_head_r0 : List AOper := [
  ⟨some 2, .val (.mov (.k (.str []))), none⟩]
def journal_head_r1 : List AOper := [
  ⟨some 3, .val (.mov (.t 0)), none⟩,
  ⟨some 4, .val (.conv false .u8 (.t 3)), none⟩,
  ⟨some 5, .buildS 1 2 [.int .u8 0] [(0, (.k (.int .u8 74))), (1, (.t 4))], none⟩,
  ⟨some 6, .val (.b2s (.t 5)), none⟩,
  ⟨some 7, .val (.slT (.k (.str [0, 0, 0, 0, 0, 0, 0, 0, 0, 0, 0, 0, 0, 0, 0, 0])) (some (.k (.int .i64 2))) none), none⟩,
  ⟨some 8, .val (.bin .add false (.t 6) (.t 7)), none⟩,
  ⟨some 2, .val (.mov (.t 8)), none⟩]
def journal_head_c : ACode :=
  (.seq
    (.reg journal_head_r0 (some ([0], [5])))
    (.seq
      (.regD journal_head_r1 [(2, 4)] (some ([2], [5])))
      .ret))
def journal_head_k (P : Program) (F : Nat → Nat) : Prop := chkFn P (F 120) 1 (journal_head_c) [2] = true
def journal_home_r0 : List AOper := [
  ⟨some 2, .val (.mov (.k (.int .i64 0))), none⟩]
def journal_home_r1 : List AOper := [
  ⟨some 3, .val (.mov (.t 0)), none⟩,
  ⟨some 4, .val (.bin .mul true (.k (.int .i64 2)) (.t 3)), none⟩,
  ⟨some 5, .val (.bin .add true (.t 4) (.k (.int .i64 1))), none⟩,
  ⟨some 2, .val (.mov (.t 5)), none⟩]
def journal_home_c : ACode :=
  (.seq
    (.reg journal_home_r0 (some ([0], [])))
    (.seq
      (.reg journal_home_r1 (some ([2], [])))
      .ret))
def journal_home_k (P : Program) (F : Nat → Nat) : Prop := chkFn P (F 122) 1 (journal_home_c) [2] = true
def ref12_at_r0 : List AOper := [
  ⟨some 4, .alloc 3 [.bool false, .int .i64 0, .str []], none⟩]
def ref12_at_r1 : List AOper := [
  ⟨some 5, .val (.mov (.t 0)), none⟩,
  ⟨some 6, .val (.mov (.t 1)), none⟩,
  ⟨some 7, .val (.build 2 [.int .i64 0, .str []] [(0, 1, (.t 5)), (1, 1, (.t 6))]), none⟩,
  ⟨some 8, .val (.build 3 [.bool false, .int .i64 0, .str []] [(1, 2, (.t 7))]), none⟩,
  ⟨none, .stA true 3 (.t 4) (.t 8), none⟩]
def ref12_at_c : ACode :=
  (.seq
    (.reg ref12_at_r0 (some ([0, 1, 4], [4])))
    (.seq
      (.reg ref12_at_r1 (some ([4], [4])))
      .ret))
def ref12_at_k (P : Program) (F : Nat → Nat) : Prop := chkFn P (F 123) 2 (ref12_at_c) [.loadA 3 (.t 4)] = true
def ref12_filled_r0 : List AOper := [
  ⟨some 2, .val (.mov (.k (.str []))), none⟩]
def ref12_filled_r1 : List AOper := [
  ⟨some 3, .val (.mov (.t 0)), none⟩,
  ⟨some 4, .val (.lenT (.t 3)), none⟩,
  ⟨some 5, .val (.bin .lss false (.t 4) (.k (.int .i64 16))), none⟩]
def ref12_filled_r2 : List AOper := [
  ⟨some 6, .val (.mov (.t 0)), none⟩,
  ⟨some 7, .buildS 1 1 [.int .u8 0] [(0, (.k (.int .u8 0)))], none⟩,
  ⟨some 8, .val (.b2s (.t 7)), none⟩,
  ⟨some 9, .val (.bin .add false (.t 6) (.t 8)), none⟩,
  ⟨some 0, .val (.mov (.t 9)), none⟩]
def ref12_filled_r3 : List AOper := [
  ⟨some 10, .val (.mov (.t 0)), none⟩,
  ⟨some 2, .val (.mov (.t 10)), none⟩]
def ref12_filled_c : ACode :=
  (.seq
    (.reg ref12_filled_r0 (some ([0], [7])))
    (.seq
      (.block 0
        (.loop
          (.seq
            (.seq
              (.reg ref12_filled_r1 (some ([0, 5], [7])))
              (.cond (.t 5)
                .skip
                (.exit 0)))
            (.block 1
              (.reg ref12_filled_r2 (some ([0], [7])))))))
      (.seq
        (.reg ref12_filled_r3 (some ([2], [7])))
        .ret)))
def ref12_filled_k (P : Program) (F : Nat → Nat) : Prop := chkFn P (F 124) 1 (ref12_filled_c) [2] = true
def journal_headed_r0 : List AOper := [
  ⟨some 2, .val (.mov (.k (.int .i64 0))), none⟩,
  ⟨some 3, .val (.mov (.k (.bool false))), none⟩]
def journal_headed_r1 : List AOper := [
  ⟨some 4, .val (.mov (.k (.int .i64 1))), none⟩]
def journal_headed_r2 : List AOper := [
  ⟨some 5, .val (.mov (.t 4)), none⟩,
  ⟨some 6, .val (.bin .leq false (.t 5) (.k (.int .i64 16))), none⟩]
def journal_headed_r4 (F : Nat → Nat) : List AOper := [
  ⟨some 9, .val (.mov (.t 0)), none⟩,
  ⟨some 10, .val (.mov (.t 4)), none⟩,
  ⟨some 11, .call (F 120) [(.t 10)], none⟩,
  ⟨some 12, .val (.bin .eql false (.t 9) (.t 11)), none⟩]
def journal_headed_r5 : List AOper := [
  ⟨some 13, .val (.mov (.t 4)), none⟩,
  ⟨some 2, .val (.mov (.t 13)), none⟩,
  ⟨some 3, .val (.mov (.k (.bool true))), none⟩]
def journal_headed_r3 : List AOper := [
  ⟨some 7, .val (.mov (.t 4)), none⟩,
  ⟨some 8, .val (.bin .add true (.t 7) (.k (.int .i64 1))), none⟩,
  ⟨some 4, .val (.mov (.t 8)), none⟩]
def journal_headed_r6 : List AOper := [
  ⟨some 2, .val (.mov (.k (.int .i64 0))), none⟩,
  ⟨some 3, .val (.mov (.k (.bool false))), none⟩]
def journal_headed_c (F : Nat → Nat) : ACode :=
  (.seq
    (.reg journal_headed_r0 (some ([0], [])))
    (.seq
      (.seq
        (.reg journal_headed_r1 (some ([0, 4], [])))
        (.block 0
          (.loop
            (.seq
              (.seq
                (.reg journal_headed_r2 (some ([0, 4, 6], [])))
                (.cond (.t 6)
                  .skip
                  (.exit 0)))
              (.seq
                (.block 1
                  (.seq
                    (.reg (journal_headed_r4 F) (some ([0, 4, 12], [])))
                    (.cond (.t 12)
                      (.seq
                        (.reg journal_headed_r5 (some ([2, 3], [])))
                        .ret)
                      .skip)))
                (.reg journal_headed_r3 (some ([0, 4], []))))))))
      (.seq
        (.reg journal_headed_r6 (some ([2, 3], [])))
        .ret)))
def journal_headed_k (P : Program) (F : Nat → Nat) : Prop := chkFn P (F 125) 1 (journal_headed_c F) [2, 3] = true
end Lk.C
