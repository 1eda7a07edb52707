/-
  CCb: what these chapters need.
-/
import Derived.Test.YtaijfhomokkpeaaLkC
set_option linter.unusedSimpArgs false
set_option maxHeartbeats 8000000
set_option maxRecDepth 100000
set_option linter.unusedVariables false
namespace Lk.C
open Go Lk
def c166_0 : OL := [
 ⟨some 1,.box 4 (.t 0),none⟩,
 ⟨some 2,.alloc 4 [.nil 1,.nil 2,.int .i64 0,.nil 4],none⟩,
 oV 3 (.mov (.k (.bool false)))]
def c166_1 : OL := [
 oV 7 (.field 0 (.t 1)),
 oV 8 (.loadA 2 (.t 7)),
 oV 9 (.field 2 (.t 1)),
 oV 10 (.load1 (.t 9)),
 oV 11 (.build 4 [.nil 1,.nil 2,.int .i64 0,.nil 4] [(0,2,(.t 8)),(2,1,(.t 10))]),
 ⟨some 4,.alloc 4 [.nil 1,.nil 2,.int .i64 0,.nil 4],none⟩,
 ⟨none,.stA true 4 (.t 4) (.t 11),none⟩]
def c166_2 (F : Nat → Nat) : OL := [
 oV 12 (.field 0 (.t 1)),
 oV 13 (.loadA 2 (.t 12)),
 ⟨some 14,.call (F 31) [(.t 13)],none⟩,
 oV 15 (.not (.t 14)),
 oV 16 (.mov (.t 15)),
 oG 17 (.field 3 (.t 1)) 16 false,
 oG 18 (.load1 (.t 17)) 16 false,
 oG 19 (.lenS (.t 18)) 16 false,
 oG 20 (.bin .gtr false (.t 19) (.k (.int .i64 20))) 16 false,
 oV 21 (.por (.t 16) (.t 20))]
def c166_3 : OL := [
 oV 22 (.loadA 4 (.t 4)),
 ⟨none,.stA true 4 (.t 2) (.t 22),none⟩,
 oV 3 (.mov (.k (.bool false)))]
def c166_4 : OL := [
 oV 23 (.field 3 (.t 1)),
 oV 24 (.load1 (.t 23)),
 oV 25 (.lenS (.t 24)),
 oV 26 (.mov (.k (.int .i64 0)))]
def c166_5 : OL := [
 oV 27 (.bin .lss false (.t 26) (.t 25))]
def c166_6 : OL := [
 oV 28 (.ixS 4 (.t 24) (.t 26)),
 oV 29 (.loadA 4 (.t 28)),
 ⟨some 6,.alloc 4 [.int .i64 0,.int .i64 0,.int .i64 0,.str []],none⟩,
 ⟨none,.stA true 4 (.t 6) (.t 29),none⟩]
def c166_7 : OL := [
 oV 30 (.field 3 (.t 6)),
 oV 31 (.load1 (.t 30)),
 oV 32 (.lenT (.t 31)),
 oV 33 (.bin .gtr false (.t 32) (.k (.int .i64 100)))]
def c166_8 : OL := [
 oV 34 (.loadA 4 (.t 4)),
 ⟨none,.stA true 4 (.t 2) (.t 34),none⟩,
 oV 3 (.mov (.k (.bool false)))]
def c166_9 : OL := [
 oV 35 (.field 3 (.t 4)),
 oV 36 (.load1 (.t 35)),
 oV 37 (.loadA 4 (.t 6)),
 ⟨some 38,.buildS 4 1 [.int .i64 0,.int .i64 0,.int .i64 0,.str []] [(0,(.t 37))],none⟩,
 ⟨some 39,.app 4 40 (.t 36) (.t 38),none⟩,
 oV 40 (.field 3 (.t 4)),
 ⟨none,.st1 true (.t 40) (.t 39),none⟩]
def c166_10 : OL := [
 oV 41 (.bin .add true (.t 26) (.k (.int .i64 1))),
 oV 26 (.mov (.t 41))]
def c166_11 : OL := [
 oV 42 (.loadA 4 (.t 4)),
 ⟨none,.stA true 4 (.t 2) (.t 42),none⟩,
 oV 3 (.mov (.k (.bool true)))]
def law04_ref_c (F : Nat → Nat) : ACode :=
 (.seq
 (.reg c166_0 (some ([1,2],[1,2,38,39])))
 (.seq
 (.reg c166_1 (some ([1,2,4],[1,2,4,38,39])))
 (.seq
 (.seq
 (.reg (c166_2 F) (some ([1,2,4,21],[1,2,4,38,39])))
 (.cond (.t 21)
 (.seq
 (.reg c166_3 (some ([2,3],[2,38,39])))
 .ret)
 .skip))
 (.seq
 (.seq
 (.reg c166_4 (some ([2,4,24,25,26],[2,4,38,39])))
 (.block 0
 (.loop
 (.seq
 (.reg c166_5 (some ([2,4,24,25,26,27],[2,4,38,39])))
 (.seq
 (.cond (.t 27)
 .skip
 (.exit 0))
 (.seq
 (.block 1
 (.seq
 (.reg c166_6 (some ([2,4,6,24,25,26],[2,4,6,38,39])))
 (.seq
 (.seq
 (.reg c166_7 (some ([2,4,6,24,25,26,33],[2,4,6,38,39])))
 (.cond (.t 33)
 (.seq
 (.reg c166_8 (some ([2,3],[2,38,39])))
 .ret)
 .skip))
 (.reg c166_9 (some ([2,4,24,25,26],[2,4,38,39]))))))
 (.reg c166_10 (some ([2,4,24,25,26],[2,4,38,39])))))))))
 (.seq
 (.reg c166_11 (some ([2,3],[2,38,39])))
 .ret)))))
def law04_ref_k (P : Program) (F : Nat → Nat) : Prop := chkFn P (F 166) 1 (law04_ref_c F) [.loadA 4 (.t 2),3] = true
def c167_0 : OL := [
 oV 0 (.mov (.k (.bool false)))]
def c167_1 : OL := [
 oV 1 (.mov (.k (.str [48,49,50,51,52,53,54,55,56,57,97,98,99,100,101,102,48,49,50,51,52,53,54,55,56,57,65,66,67,68,69,70])))]
def c167_2 (F : Nat → Nat) : OL := [
 ⟨some 13,.call (F 172) [],none⟩,
 oV 14 (.mov (.t 1)),
 ⟨some 15,.call (F 168) [(.t 13),(.k (.int .i64 2)),(.k (.int .i64 1)),(.t 14)],none⟩,
 oV 12 (.mov (.t 15)),
 oV 16 (.extr 0 (.t 12)),
 oV 17 (.extr 1 (.t 12)),
 oV 18 (.extr 2 (.t 12)),
 ⟨some 2,.alloc 4 [.nil 1,.nil 2,.int .i64 0,.nil 4],none⟩,
 ⟨none,.stA true 4 (.t 2) (.t 16),none⟩,
 oV 3 (.mov (.t 17)),
 oV 4 (.mov (.t 18))]
def c167_3 (F : Nat → Nat) : OL := [
 oV 20 (.loadA 4 (.t 2)),
 ⟨some 21,.call (F 168) [(.t 20),(.k (.int .i64 1)),(.k (.int .i64 1)),(.k (.str []))],none⟩,
 oV 19 (.mov (.t 21)),
 oV 22 (.extr 0 (.t 19)),
 oV 23 (.extr 1 (.t 19)),
 oV 24 (.extr 2 (.t 19)),
 ⟨none,.stA true 4 (.t 2) (.t 22),none⟩,
 oV 5 (.mov (.t 23)),
 oV 6 (.mov (.t 24))]
def c167_4 (F : Nat → Nat) : OL := [
 oV 26 (.loadA 4 (.t 2)),
 ⟨some 27,.call (F 149) [(.t 26),(.k (.int .i64 0)),(.k (.bool false))],none⟩,
 oV 25 (.mov (.t 27)),
 oV 28 (.extr 0 (.t 25)),
 oV 29 (.extr 1 (.t 25)),
 oV 30 (.extr 2 (.t 25)),
 ⟨some 7,.alloc 4 [.int .i64 0,.int .i64 0,.int .i64 0,.str []],none⟩,
 ⟨none,.stA true 4 (.t 2) (.t 28),none⟩,
 ⟨none,.stA true 4 (.t 7) (.t 29),none⟩,
 oV 8 (.mov (.t 30))]
def c167_5 (F : Nat → Nat) : OL := [
 oV 32 (.loadA 4 (.t 2)),
 ⟨some 33,.call (F 149) [(.t 32),(.k (.int .i64 0)),(.k (.bool false))],none⟩,
 oV 31 (.mov (.t 33)),
 oV 34 (.extr 0 (.t 31)),
 oV 35 (.extr 1 (.t 31)),
 oV 36 (.extr 2 (.t 31)),
 ⟨some 9,.alloc 4 [.nil 1,.nil 2,.int .i64 0,.nil 4],none⟩,
 ⟨some 10,.alloc 4 [.int .i64 0,.int .i64 0,.int .i64 0,.str []],none⟩,
 ⟨none,.stA true 4 (.t 9) (.t 34),none⟩,
 ⟨none,.stA true 4 (.t 10) (.t 35),none⟩,
 oV 11 (.mov (.t 36))]
def c167_6 : OL := [
 oV 37 (.mov (.t 3)),
 oV 38 (.bin .eql false (.t 37) (.k (.int .i64 0))),
 oV 39 (.mov (.t 38)),
 oG 40 (.mov (.t 5)) 39 true,
 oG 41 (.bin .eql false (.t 40) (.k (.int .i64 1))) 39 true,
 oV 42 (.pand (.t 39) (.t 41)),
 oV 43 (.mov (.t 42)),
 oG 44 (.mov (.t 4)) 43 true,
 oG 45 (.bin .eql false (.t 44) (.k (.int .i64 0))) 43 true,
 oV 46 (.pand (.t 43) (.t 45)),
 oV 47 (.mov (.t 46)),
 oG 48 (.mov (.t 6)) 47 true,
 oG 49 (.bin .eql false (.t 48) (.k (.int .i64 0))) 47 true,
 oV 50 (.pand (.t 47) (.t 49)),
 oV 51 (.mov (.t 50)),
 oG 52 (.mov (.t 8)) 51 true,
 oG 53 (.bin .eql false (.t 52) (.k (.int .i64 0))) 51 true,
 oV 54 (.pand (.t 51) (.t 53)),
 oV 55 (.mov (.t 54)),
 oG 56 (.field 3 (.t 10)) 55 true,
 oG 57 (.load1 (.t 56)) 55 true,
 oG 58 (.mov (.t 1)) 55 true,
 oG 59 (.bin .eql false (.t 57) (.t 58)) 55 true,
 oV 60 (.pand (.t 55) (.t 59)),
 oV 61 (.mov (.t 60)),
 oG 62 (.mov (.t 11)) 61 true,
 oG 63 (.bin .eql false (.t 62) (.k (.int .i64 0))) 61 true,
 oV 64 (.pand (.t 61) (.t 63)),
 oV 65 (.mov (.t 64)),
 oV 66 (.por (.t 65) (.k (.bool false))),
 oV 0 (.mov (.t 66))]
def law04_awake_c (F : Nat → Nat) : ACode :=
 (.seq
 (.reg c167_0 (some ([],[])))
 (.seq
 (.reg c167_1 (some ([1],[])))
 (.seq
 (.reg (c167_2 F) (some ([1,2,3,4],[2])))
 (.seq
 (.reg (c167_3 F) (some ([1,2,3,4,5,6],[2])))
 (.seq
 (.reg (c167_4 F) (some ([1,2,3,4,5,6,8],[2])))
 (.seq
 (.reg (c167_5 F) (some ([1,3,4,5,6,8,10,11],[10])))
 (.seq
 (.reg c167_6 (some ([0],[])))
 .ret)))))))
def law04_awake_k (P : Program) (F : Nat → Nat) : Prop := chkFn P (F 167) 0 (law04_awake_c F) [0] = true
def c168_0 : OL := [
 ⟨some 4,.box 4 (.t 0),none⟩,
 ⟨some 8,.alloc 4 [.nil 1,.nil 2,.int .i64 0,.nil 4],none⟩,
 oV 9 (.mov (.k (.int .i64 0))),
 oV 10 (.mov (.k (.int .i64 0)))]
def c168_1 (F : Nat → Nat) : OL := [
 oV 13 (.loadA 4 (.t 4)),
 ⟨some 14,.call (F 145) [(.t 13)],none⟩,
 oV 15 (.not (.t 14)),
 oV 16 (.mov (.t 15)),
 oG 17 (.field 2 (.t 4)) 16 false,
 oG 18 (.load1 (.t 17)) 16 false,
 oG 19 (.bin .eql false (.t 18) (.k (.int .i64 2147483647))) 16 false,
 oV 20 (.por (.t 16) (.t 19)),
 oV 21 (.mov (.t 20)),
 oG 22 (.mov (.t 1)) 21 false,
 oG 23 (.mov (.t 2)) 21 false,
 oG 24 (.mov (.t 3)) 21 false,
 ⟨some 25,.call (F 188) [(.t 22),(.t 23),(.t 24)],some (21,false)⟩,
 oG 26 (.not (.t 25)) 21 false,
 oV 27 (.por (.t 21) (.t 26))]
def c168_2 : OL := [
 oV 28 (.loadA 4 (.t 4)),
 ⟨none,.stA true 4 (.t 8) (.t 28),none⟩,
 oV 9 (.mov (.k (.int .i64 0))),
 oV 10 (.mov (.k (.int .i64 1)))]
def c168_3 : OL := [
 oV 29 (.field 3 (.t 4)),
 oV 30 (.load1 (.t 29)),
 oV 31 (.lenS (.t 30)),
 oV 32 (.bin .geq false (.t 31) (.k (.int .i64 4)))]
def c168_4 : OL := [
 oV 33 (.loadA 4 (.t 4)),
 ⟨none,.stA true 4 (.t 8) (.t 33),none⟩,
 oV 9 (.mov (.k (.int .i64 0))),
 oV 10 (.mov (.k (.int .i64 6)))]
def c168_5 : OL := [
 oV 34 (.field 2 (.t 4)),
 oV 35 (.load1 (.t 34)),
 oV 11 (.mov (.t 35))]
def c168_6 : OL := [
 oV 36 (.mov (.t 11)),
 oV 37 (.mov (.t 1)),
 oV 38 (.mov (.t 2)),
 oV 39 (.mov (.t 3)),
 oV 40 (.build 4 [.int .i64 0,.int .i64 0,.int .i64 0,.str []] [(0,1,(.t 36)),(1,1,(.t 37)),(2,1,(.t 38)),(3,1,(.t 39))]),
 ⟨some 12,.alloc 4 [.int .i64 0,.int .i64 0,.int .i64 0,.str []],none⟩,
 ⟨none,.stA true 4 (.t 12) (.t 40),none⟩]
def c168_7 (F : Nat → Nat) : OL := [
 oV 41 (.field 3 (.t 4)),
 oV 42 (.load1 (.t 41)),
 ⟨some 43,.call (F 189) [(.t 42)],none⟩,
 oV 44 (.loadA 4 (.t 12)),
 ⟨some 45,.buildS 4 1 [.int .i64 0,.int .i64 0,.int .i64 0,.str []] [(0,(.t 44))],none⟩,
 ⟨some 46,.app 4 40 (.t 43) (.t 45),none⟩,
 oV 47 (.field 3 (.t 4)),
 ⟨none,.st1 true (.t 47) (.t 46),none⟩]
def c168_8 : OL := [
 oV 48 (.field 2 (.t 4)),
 oV 49 (.load1 (.t 48)),
 oV 50 (.bin .add true (.t 49) (.k (.int .i64 1))),
 oV 51 (.field 2 (.t 4)),
 ⟨none,.st1 true (.t 51) (.t 50),none⟩]
def c168_9 : OL := [
 oV 52 (.loadA 4 (.t 4)),
 oV 53 (.mov (.t 11)),
 ⟨none,.stA true 4 (.t 8) (.t 52),none⟩,
 oV 9 (.mov (.t 53)),
 oV 10 (.mov (.k (.int .i64 0)))]
def device_Submit_c (F : Nat → Nat) : ACode :=
 (.seq
 (.reg c168_0 (some ([1,2,3,4,8],[4,8,45,46,1043])))
 (.seq
 (.seq
 (.reg (c168_1 F) (some ([1,2,3,4,8,27],[4,8,45,46,1043])))
 (.cond (.t 27)
 (.seq
 (.reg c168_2 (some ([8,9,10],[8,45,46,1043])))
 .ret)
 .skip))
 (.seq
 (.seq
 (.reg c168_3 (some ([1,2,3,4,8,32],[4,8,45,46,1043])))
 (.cond (.t 32)
 (.seq
 (.reg c168_4 (some ([8,9,10],[8,45,46,1043])))
 .ret)
 .skip))
 (.seq
 (.reg c168_5 (some ([1,2,3,4,8,11],[4,8,45,46,1043])))
 (.seq
 (.reg c168_6 (some ([4,8,11,12],[4,8,12,45,46,1043])))
 (.seq
 (.regD (c168_7 F) [(2,3),(0,4),(1,4),(2,4)] (some ([4,8,11],[4,8,45,46,1043])))
 (.seq
 (.reg c168_8 (some ([4,8,11],[4,8,45,46,1043])))
 (.seq
 (.reg c168_9 (some ([8,9,10],[8,45,46,1043])))
 .ret))))))))
def device_Submit_k (P : Program) (F : Nat → Nat) : Prop := chkFn P (F 168) 4 (device_Submit_c F) [.loadA 4 (.t 8),9,10] = true
def c169_0 : OL := [
 ⟨some 4,.box 4 (.t 0),none⟩,
 ⟨some 8,.alloc 4 [.nil 1,.nil 2,.int .i64 0,.nil 4],none⟩,
 oV 9 (.mov (.k (.int .i64 0))),
 oV 10 (.mov (.k (.int .i64 0)))]
def c169_1 (F : Nat → Nat) : OL := [
 oV 12 (.loadA 4 (.t 4)),
 ⟨some 13,.call (F 171) [(.t 12)],none⟩,
 oV 14 (.not (.t 13)),
 oV 15 (.mov (.t 14)),
 oG 16 (.field 2 (.t 4)) 15 false,
 oG 17 (.load1 (.t 16)) 15 false,
 oG 18 (.bin .eql false (.t 17) (.k (.int .i64 2147483647))) 15 false,
 oV 19 (.por (.t 15) (.t 18)),
 oV 20 (.mov (.t 19)),
 oG 21 (.mov (.t 1)) 20 false,
 oG 22 (.mov (.t 2)) 20 false,
 oG 23 (.mov (.t 3)) 20 false,
 ⟨some 24,.call (F 190) [(.t 21),(.t 22),(.t 23)],some (20,false)⟩,
 oG 25 (.not (.t 24)) 20 false,
 oV 26 (.por (.t 20) (.t 25))]
def c169_2 : OL := [
 oV 27 (.loadA 4 (.t 4)),
 ⟨none,.stA true 4 (.t 8) (.t 27),none⟩,
 oV 9 (.mov (.k (.int .i64 0))),
 oV 10 (.mov (.k (.int .i64 1)))]
def c169_3 : OL := [
 oV 28 (.field 3 (.t 4)),
 oV 29 (.load1 (.t 28)),
 oV 30 (.lenS (.t 29)),
 oV 31 (.bin .eql false (.t 30) (.k (.int .i64 4)))]
def c169_4 : OL := [
 oV 32 (.loadA 4 (.t 4)),
 ⟨none,.stA true 4 (.t 8) (.t 32),none⟩,
 oV 9 (.mov (.k (.int .i64 0))),
 oV 10 (.mov (.k (.int .i64 6)))]
def c169_5 : OL := [
 oV 33 (.field 0 (.t 4)),
 oV 34 (.loadA 2 (.t 33)),
 oV 35 (.field 2 (.t 4)),
 oV 36 (.load1 (.t 35)),
 oV 37 (.bin .add true (.t 36) (.k (.int .i64 1))),
 oV 38 (.build 4 [.nil 1,.nil 2,.int .i64 0,.nil 4] [(0,2,(.t 34)),(2,1,(.t 37))]),
 ⟨some 11,.alloc 4 [.nil 1,.nil 2,.int .i64 0,.nil 4],none⟩,
 ⟨none,.stA true 4 (.t 11) (.t 38),none⟩]
def c169_6 : OL := [
 oV 39 (.field 3 (.t 11)),
 oV 40 (.load1 (.t 39)),
 oV 41 (.field 3 (.t 4)),
 oV 42 (.load1 (.t 41)),
 ⟨some 43,.app 4 40 (.t 40) (.t 42),none⟩,
 oV 44 (.field 3 (.t 11)),
 ⟨none,.st1 true (.t 44) (.t 43),none⟩]
def c169_7 : OL := [
 oV 45 (.field 3 (.t 11)),
 oV 46 (.load1 (.t 45)),
 oV 47 (.field 2 (.t 4)),
 oV 48 (.load1 (.t 47)),
 oV 49 (.mov (.t 1)),
 oV 50 (.mov (.t 2)),
 oV 51 (.mov (.t 3)),
 oV 52 (.build 4 [.int .i64 0,.int .i64 0,.int .i64 0,.str []] [(0,1,(.t 48)),(1,1,(.t 49)),(2,1,(.t 50)),(3,1,(.t 51))]),
 ⟨some 53,.buildS 4 1 [.int .i64 0,.int .i64 0,.int .i64 0,.str []] [(0,(.t 52))],none⟩,
 ⟨some 54,.app 4 40 (.t 46) (.t 53),none⟩,
 oV 55 (.field 3 (.t 11)),
 ⟨none,.st1 true (.t 55) (.t 54),none⟩]
def c169_8 : OL := [
 oV 56 (.loadA 4 (.t 11)),
 oV 57 (.field 2 (.t 4)),
 oV 58 (.load1 (.t 57)),
 ⟨none,.stA true 4 (.t 8) (.t 56),none⟩,
 oV 9 (.mov (.t 58)),
 oV 10 (.mov (.k (.int .i64 0)))]
def ref04_Submit_c (F : Nat → Nat) : ACode :=
 (.seq
 (.reg c169_0 (some ([1,2,3,4,8],[4,8,43,53,54])))
 (.seq
 (.seq
 (.reg (c169_1 F) (some ([1,2,3,4,8,26],[4,8,43,53,54])))
 (.cond (.t 26)
 (.seq
 (.reg c169_2 (some ([8,9,10],[8,43,53,54])))
 .ret)
 .skip))
 (.seq
 (.seq
 (.reg c169_3 (some ([1,2,3,4,8,31],[4,8,43,53,54])))
 (.cond (.t 31)
 (.seq
 (.reg c169_4 (some ([8,9,10],[8,43,53,54])))
 .ret)
 .skip))
 (.seq
 (.reg c169_5 (some ([1,2,3,4,8,11],[4,8,11,43,53,54])))
 (.seq
 (.reg c169_6 (some ([1,2,3,4,8,11],[4,8,11,43,53,54])))
 (.seq
 (.reg c169_7 (some ([4,8,11],[4,8,11,43,53,54])))
 (.seq
 (.regD c169_8 [(1,3),(2,3)] (some ([8,9,10],[8,43,53,54])))
 .ret)))))))
def ref04_Submit_k (P : Program) (F : Nat → Nat) : Prop := chkFn P (F 169) 4 (ref04_Submit_c F) [.loadA 4 (.t 8),9,10] = true
def c170_0 : OL := [
 ⟨some 2,.box 4 (.t 0),none⟩,
 ⟨some 3,.box 4 (.t 1),none⟩,
 oV 4 (.mov (.k (.bool false)))]
def c170_1 (F : Nat → Nat) : OL := [
 oV 6 (.field 0 (.t 2)),
 oV 7 (.loadA 2 (.t 6)),
 oV 8 (.field 0 (.t 3)),
 oV 9 (.loadA 2 (.t 8)),
 ⟨some 10,.call (F 38) [(.t 7),(.t 9)],none⟩,
 oV 11 (.not (.t 10)),
 oV 12 (.mov (.t 11)),
 oG 13 (.field 2 (.t 2)) 12 false,
 oG 14 (.load1 (.t 13)) 12 false,
 oG 15 (.field 2 (.t 3)) 12 false,
 oG 16 (.load1 (.t 15)) 12 false,
 oG 17 (.bin .neq false (.t 14) (.t 16)) 12 false,
 oV 18 (.por (.t 12) (.t 17)),
 oV 19 (.mov (.t 18)),
 oG 20 (.field 3 (.t 2)) 19 false,
 oG 21 (.load1 (.t 20)) 19 false,
 oG 22 (.lenS (.t 21)) 19 false,
 oG 23 (.field 3 (.t 3)) 19 false,
 oG 24 (.load1 (.t 23)) 19 false,
 oG 25 (.lenS (.t 24)) 19 false,
 oG 26 (.bin .neq false (.t 22) (.t 25)) 19 false,
 oV 27 (.por (.t 19) (.t 26))]
def c170_2 : OL := [
 oV 4 (.mov (.k (.bool false)))]
def c170_3 : OL := [
 oV 5 (.mov (.k (.int .i64 0)))]
def c170_4 : OL := [
 oV 28 (.mov (.t 5)),
 oV 29 (.field 3 (.t 2)),
 oV 30 (.load1 (.t 29)),
 oV 31 (.lenS (.t 30)),
 oV 32 (.bin .lss false (.t 28) (.t 31))]
def c170_6 : OL := [
 oV 35 (.field 3 (.t 2)),
 oV 36 (.load1 (.t 35)),
 oV 37 (.mov (.t 5)),
 oV 38 (.ixS 4 (.t 36) (.t 37)),
 oV 39 (.loadA 4 (.t 38)),
 oV 40 (.field 3 (.t 3)),
 oV 41 (.load1 (.t 40)),
 oV 42 (.mov (.t 5)),
 oV 43 (.ixS 4 (.t 41) (.t 42)),
 oV 44 (.loadA 4 (.t 43)),
 oV 45 (.eqA true [0,0,0,2] (.t 39) (.t 44))]
def c170_7 : OL := [
 oV 4 (.mov (.k (.bool false)))]
def c170_5 : OL := [
 oV 33 (.mov (.t 5)),
 oV 34 (.bin .add true (.t 33) (.k (.int .i64 1))),
 oV 5 (.mov (.t 34))]
def c170_8 : OL := [
 oV 4 (.mov (.k (.bool true)))]
def ref04_Same_c (F : Nat → Nat) : ACode :=
 (.seq
 (.reg c170_0 (some ([2,3],[2,3])))
 (.seq
 (.seq
 (.reg (c170_1 F) (some ([2,3,27],[2,3])))
 (.cond (.t 27)
 (.seq
 (.reg c170_2 (some ([4],[])))
 .ret)
 .skip))
 (.seq
 (.seq
 (.reg c170_3 (some ([2,3,5],[2,3])))
 (.block 0
 (.loop
 (.seq
 (.seq
 (.reg c170_4 (some ([2,3,5,32],[2,3])))
 (.cond (.t 32)
 .skip
 (.exit 0)))
 (.seq
 (.block 1
 (.seq
 (.regD c170_6 [] (some ([2,3,5,45],[2,3])))
 (.cond (.t 45)
 (.seq
 (.reg c170_7 (some ([4],[])))
 .ret)
 .skip)))
 (.reg c170_5 (some ([2,3,5],[2,3]))))))))
 (.seq
 (.reg c170_8 (some ([4],[])))
 .ret))))
def ref04_Same_k (P : Program) (F : Nat → Nat) : Prop := chkFn P (F 170) 2 (ref04_Same_c F) [4] = true
def c145_0 : OL := [
 ⟨some 1,.box 4 (.t 0),none⟩,
 oV 2 (.mov (.k (.bool false)))]
def c145_1 (F : Nat → Nat) : OL := [
 oV 6 (.field 0 (.t 1)),
 oV 7 (.loadA 2 (.t 6)),
 ⟨some 8,.call (F 40) [(.t 7)],none⟩,
 oV 9 (.not (.t 8)),
 oV 10 (.mov (.t 9)),
 oG 11 (.field 0 (.t 1)) 10 false,
 oG 12 (.field 0 (.t 11)) 10 false,
 oG 13 (.load1 (.t 12)) 10 false,
 oG 14 (.lenS (.t 13)) 10 false,
 oG 15 (.bin .lss false (.t 14) (.k (.int .i64 35))) 10 false,
 oV 16 (.por (.t 10) (.t 15))]
def c145_2 : OL := [
 oV 2 (.mov (.k (.bool false)))]
def c145_3 : OL := [
 oV 17 (.field 2 (.t 1)),
 oV 18 (.load1 (.t 17)),
 oV 19 (.bin .lss false (.t 18) (.k (.int .i64 0))),
 oV 20 (.mov (.t 19)),
 oG 21 (.field 2 (.t 1)) 20 false,
 oG 22 (.load1 (.t 21)) 20 false,
 oG 23 (.bin .gtr false (.t 22) (.k (.int .i64 2147483647))) 20 false,
 oV 24 (.por (.t 20) (.t 23)),
 oV 25 (.mov (.t 24)),
 oG 26 (.field 3 (.t 1)) 25 false,
 oG 27 (.load1 (.t 26)) 25 false,
 oG 28 (.lenS (.t 27)) 25 false,
 oG 29 (.bin .gtr false (.t 28) (.k (.int .i64 4))) 25 false,
 oV 30 (.por (.t 25) (.t 29))]
def c145_4 : OL := [
 oV 2 (.mov (.k (.bool false)))]
def c145_5 : OL := [
 oV 3 (.mov (.k (.int .i64 (-1))))]
def c145_6 : OL := [
 oV 31 (.field 3 (.t 1)),
 oV 32 (.load1 (.t 31)),
 oV 33 (.lenS (.t 32)),
 oV 34 (.mov (.k (.int .i64 0)))]
def c145_7 : OL := [
 oV 35 (.bin .lss false (.t 34) (.t 33))]
def c145_8 : OL := [
 oV 36 (.ixS 4 (.t 32) (.t 34)),
 oV 37 (.loadA 4 (.t 36)),
 ⟨some 5,.alloc 4 [.int .i64 0,.int .i64 0,.int .i64 0,.str []],none⟩,
 ⟨none,.stA true 4 (.t 5) (.t 37),none⟩]
def c145_9 : OL := [
 oV 38 (.field 0 (.t 5)),
 oV 39 (.load1 (.t 38)),
 oV 40 (.mov (.t 3)),
 oV 41 (.bin .leq false (.t 39) (.t 40)),
 oV 42 (.mov (.t 41)),
 oG 43 (.field 0 (.t 5)) 42 false,
 oG 44 (.load1 (.t 43)) 42 false,
 oG 45 (.field 2 (.t 1)) 42 false,
 oG 46 (.load1 (.t 45)) 42 false,
 oG 47 (.bin .geq false (.t 44) (.t 46)) 42 false,
 oV 48 (.por (.t 42) (.t 47))]
def c145_10 : OL := [
 oV 2 (.mov (.k (.bool false)))]
def c145_11 (F : Nat → Nat) : OL := [
 oV 49 (.field 1 (.t 5)),
 oV 50 (.load1 (.t 49)),
 oV 51 (.field 2 (.t 5)),
 oV 52 (.load1 (.t 51)),
 oV 53 (.field 3 (.t 5)),
 oV 54 (.load1 (.t 53)),
 ⟨some 55,.call (F 188) [(.t 50),(.t 52),(.t 54)],none⟩,
 oV 56 (.not (.t 55))]
def c145_12 : OL := [
 oV 2 (.mov (.k (.bool false)))]
def c145_13 : OL := [
 oV 57 (.field 0 (.t 5)),
 oV 58 (.load1 (.t 57)),
 oV 3 (.mov (.t 58))]
def c145_14 : OL := [
 oV 59 (.bin .add true (.t 34) (.k (.int .i64 1))),
 oV 34 (.mov (.t 59))]
def c145_15 : OL := [
 oV 2 (.mov (.k (.bool true)))]
def device_Right_c (F : Nat → Nat) : ACode :=
 (.seq
 (.reg c145_0 (some ([1],[1])))
 (.seq
 (.seq
 (.reg (c145_1 F) (some ([1,16],[1])))
 (.cond (.t 16)
 (.seq
 (.reg c145_2 (some ([2],[])))
 .ret)
 .skip))
 (.seq
 (.seq
 (.reg c145_3 (some ([1,30],[1])))
 (.cond (.t 30)
 (.seq
 (.reg c145_4 (some ([2],[])))
 .ret)
 .skip))
 (.seq
 (.reg c145_5 (some ([1,3],[1])))
 (.seq
 (.seq
 (.reg c145_6 (some ([1,3,32,33,34],[1])))
 (.block 0
 (.loop
 (.seq
 (.reg c145_7 (some ([1,3,32,33,34,35],[1])))
 (.seq
 (.cond (.t 35)
 .skip
 (.exit 0))
 (.seq
 (.block 1
 (.seq
 (.reg c145_8 (some ([1,3,5,32,33,34],[1,5])))
 (.seq
 (.seq
 (.reg c145_9 (some ([1,5,32,33,34,48],[1,5])))
 (.cond (.t 48)
 (.seq
 (.reg c145_10 (some ([2],[])))
 .ret)
 .skip))
 (.seq
 (.seq
 (.reg (c145_11 F) (some ([1,5,32,33,34,56],[1,5])))
 (.cond (.t 56)
 (.seq
 (.reg c145_12 (some ([2],[])))
 .ret)
 .skip))
 (.reg c145_13 (some ([1,3,32,33,34],[1])))))))
 (.reg c145_14 (some ([1,3,32,33,34],[1])))))))))
 (.seq
 (.reg c145_15 (some ([2],[])))
 .ret))))))
def device_Right_k (P : Program) (F : Nat → Nat) : Prop := chkFn P (F 145) 1 (device_Right_c F) [2] = true
def c171_0 : OL := [
 ⟨some 1,.box 4 (.t 0),none⟩,
 oV 2 (.mov (.k (.bool false)))]
def c171_1 (F : Nat → Nat) : OL := [
 oV 5 (.field 0 (.t 1)),
 oV 6 (.loadA 2 (.t 5)),
 ⟨some 7,.call (F 32) [(.t 6)],none⟩,
 oV 8 (.not (.t 7)),
 oV 9 (.mov (.t 8)),
 oG 10 (.field 0 (.t 1)) 9 false,
 oG 11 (.field 0 (.t 10)) 9 false,
 oG 12 (.load1 (.t 11)) 9 false,
 oG 13 (.lenS (.t 12)) 9 false,
 oG 14 (.bin .lss false (.t 13) (.k (.int .i64 35))) 9 false,
 oV 15 (.por (.t 9) (.t 14)),
 oV 16 (.mov (.t 15)),
 oG 17 (.field 2 (.t 1)) 16 false,
 oG 18 (.load1 (.t 17)) 16 false,
 oG 19 (.bin .lss false (.t 18) (.k (.int .i64 0))) 16 false,
 oV 20 (.por (.t 16) (.t 19)),
 oV 21 (.mov (.t 20)),
 oG 22 (.field 2 (.t 1)) 21 false,
 oG 23 (.load1 (.t 22)) 21 false,
 oG 24 (.bin .gtr false (.t 23) (.k (.int .i64 2147483647))) 21 false,
 oV 25 (.por (.t 21) (.t 24)),
 oV 26 (.mov (.t 25)),
 oG 27 (.field 3 (.t 1)) 26 false,
 oG 28 (.load1 (.t 27)) 26 false,
 oG 29 (.lenS (.t 28)) 26 false,
 oG 30 (.bin .gtr false (.t 29) (.k (.int .i64 4))) 26 false,
 oV 31 (.por (.t 26) (.t 30))]
def c171_2 : OL := [
 oV 2 (.mov (.k (.bool false)))]
def c171_3 : OL := [
 oV 3 (.mov (.k (.int .i64 0)))]
def c171_4 : OL := [
 oV 32 (.mov (.t 3)),
 oV 33 (.field 3 (.t 1)),
 oV 34 (.load1 (.t 33)),
 oV 35 (.lenS (.t 34)),
 oV 36 (.bin .lss false (.t 32) (.t 35))]
def c171_6 : OL := [
 oV 39 (.field 3 (.t 1)),
 oV 40 (.load1 (.t 39)),
 oV 41 (.mov (.t 3)),
 oV 42 (.ixS 4 (.t 40) (.t 41)),
 oV 43 (.loadA 4 (.t 42)),
 ⟨some 4,.alloc 4 [.int .i64 0,.int .i64 0,.int .i64 0,.str []],none⟩,
 ⟨none,.stA true 4 (.t 4) (.t 43),none⟩]
def c171_7 (F : Nat → Nat) : OL := [
 oV 44 (.field 0 (.t 4)),
 oV 45 (.load1 (.t 44)),
 oV 46 (.bin .lss false (.t 45) (.k (.int .i64 0))),
 oV 47 (.mov (.t 46)),
 oG 48 (.field 0 (.t 4)) 47 false,
 oG 49 (.load1 (.t 48)) 47 false,
 oG 50 (.field 2 (.t 1)) 47 false,
 oG 51 (.load1 (.t 50)) 47 false,
 oG 52 (.bin .geq false (.t 49) (.t 51)) 47 false,
 oV 53 (.por (.t 47) (.t 52)),
 oV 54 (.mov (.t 53)),
 oG 55 (.mov (.t 3)) 54 false,
 oG 56 (.bin .gtr false (.t 55) (.k (.int .i64 0))) 54 false,
 oG 57 (.mov (.t 56)) 54 false,
 oG 58 (.field 0 (.t 4)) 57 true,
 oG 59 (.load1 (.t 58)) 57 true,
 oG 60 (.field 3 (.t 1)) 57 true,
 oG 61 (.load1 (.t 60)) 57 true,
 oG 62 (.mov (.t 3)) 57 true,
 oG 63 (.bin .sub true (.t 62) (.k (.int .i64 1))) 57 true,
 oG 64 (.ixS 4 (.t 61) (.t 63)) 57 true,
 oG 65 (.field 0 (.t 64)) 57 true,
 oG 66 (.load1 (.t 65)) 57 true,
 oG 67 (.bin .leq false (.t 59) (.t 66)) 57 true,
 oG 68 (.pand (.t 57) (.t 67)) 54 false,
 oV 69 (.por (.t 54) (.t 68)),
 oV 70 (.mov (.t 69)),
 oG 71 (.field 1 (.t 4)) 70 false,
 oG 72 (.load1 (.t 71)) 70 false,
 oG 73 (.field 2 (.t 4)) 70 false,
 oG 74 (.load1 (.t 73)) 70 false,
 oG 75 (.field 3 (.t 4)) 70 false,
 oG 76 (.load1 (.t 75)) 70 false,
 ⟨some 77,.call (F 190) [(.t 72),(.t 74),(.t 76)],some (70,false)⟩,
 oG 78 (.not (.t 77)) 70 false,
 oV 79 (.por (.t 70) (.t 78))]
def c171_8 : OL := [
 oV 2 (.mov (.k (.bool false)))]
def c171_5 : OL := [
 oV 37 (.mov (.t 3)),
 oV 38 (.bin .add true (.t 37) (.k (.int .i64 1))),
 oV 3 (.mov (.t 38))]
def c171_9 : OL := [
 oV 2 (.mov (.k (.bool true)))]
def ref04_Right_c (F : Nat → Nat) : ACode :=
 (.seq
 (.reg c171_0 (some ([1],[1])))
 (.seq
 (.seq
 (.reg (c171_1 F) (some ([1,31],[1])))
 (.cond (.t 31)
 (.seq
 (.reg c171_2 (some ([2],[])))
 .ret)
 .skip))
 (.seq
 (.seq
 (.reg c171_3 (some ([1,3],[1])))
 (.block 0
 (.loop
 (.seq
 (.seq
 (.reg c171_4 (some ([1,3,36],[1])))
 (.cond (.t 36)
 .skip
 (.exit 0)))
 (.seq
 (.block 1
 (.seq
 (.reg c171_6 (some ([1,3,4],[1,4])))
 (.seq
 (.regD (c171_7 F) [] (some ([1,3,79],[1])))
 (.cond (.t 79)
 (.seq
 (.reg c171_8 (some ([2],[])))
 .ret)
 .skip))))
 (.reg c171_5 (some ([1,3],[1]))))))))
 (.seq
 (.reg c171_9 (some ([2],[])))
 .ret))))
def ref04_Right_k (P : Program) (F : Nat → Nat) : Prop := chkFn P (F 171) 1 (ref04_Right_c F) [2] = true
def c172_0 : OL := [
 ⟨some 0,.alloc 4 [.nil 1,.nil 2,.int .i64 0,.nil 4],none⟩]
def c172_1 (F : Nat → Nat) : OL := [
 ⟨some 4,.call (F 28) [(.k (.int .i64 35))],none⟩,
 oV 3 (.mov (.t 4)),
 oV 5 (.extr 0 (.t 3)),
 oV 6 (.extr 1 (.t 3)),
 ⟨some 1,.alloc 2 [.nil 1,.nil 2],none⟩,
 ⟨none,.stA true 2 (.t 1) (.t 5),none⟩,
 oV 2 (.mov (.t 6))]
def c172_2 : OL := [
 oV 7 (.loadA 2 (.t 1)),
 oV 8 (.build 4 [.nil 1,.nil 2,.int .i64 0,.nil 4] [(0,2,(.t 7))]),
 ⟨none,.stA true 4 (.t 0) (.t 8),none⟩]
def law04_New_c (F : Nat → Nat) : ACode :=
 (.seq
 (.reg c172_0 (some ([0],[0])))
 (.seq
 (.reg (c172_1 F) (some ([0,1],[0,1])))
 (.seq
 (.reg c172_2 (some ([0],[0])))
 .ret)))
def law04_New_k (P : Program) (F : Nat → Nat) : Prop := chkFn P (F 172) 0 (law04_New_c F) [.loadA 4 (.t 0)] = true
def c149_0 : OL := [
 ⟨some 3,.box 4 (.t 0),none⟩,
 ⟨some 6,.alloc 4 [.nil 1,.nil 2,.int .i64 0,.nil 4],none⟩,
 ⟨some 7,.alloc 4 [.int .i64 0,.int .i64 0,.int .i64 0,.str []],none⟩,
 oV 8 (.mov (.k (.int .i64 0)))]
def c149_1 (F : Nat → Nat) : OL := [
 oV 15 (.loadA 4 (.t 3)),
 ⟨some 16,.call (F 145) [(.t 15)],none⟩,
 oV 17 (.not (.t 16)),
 oV 18 (.mov (.t 17)),
 oG 19 (.mov (.t 1)) 18 false,
 oG 20 (.bin .lss false (.t 19) (.k (.int .i64 0))) 18 false,
 oV 21 (.por (.t 18) (.t 20)),
 oV 22 (.mov (.t 21)),
 oG 23 (.mov (.t 1)) 22 false,
 oG 24 (.field 3 (.t 3)) 22 false,
 oG 25 (.load1 (.t 24)) 22 false,
 oG 26 (.lenS (.t 25)) 22 false,
 oG 27 (.bin .geq false (.t 23) (.t 26)) 22 false,
 oV 28 (.por (.t 22) (.t 27))]
def c149_2 : OL := [
 oV 29 (.loadA 4 (.t 3)),
 oV 30 (.build 4 [.int .i64 0,.int .i64 0,.int .i64 0,.str []] []),
 ⟨none,.stA true 4 (.t 6) (.t 29),none⟩,
 ⟨none,.stA true 4 (.t 7) (.t 30),none⟩,
 oV 8 (.mov (.k (.int .i64 1)))]
def c149_3 : OL := [
 oV 31 (.field 3 (.t 3)),
 oV 32 (.load1 (.t 31)),
 oV 33 (.mov (.t 1)),
 oV 34 (.ixS 4 (.t 32) (.t 33)),
 oV 35 (.loadA 4 (.t 34)),
 ⟨some 9,.alloc 4 [.int .i64 0,.int .i64 0,.int .i64 0,.str []],none⟩,
 ⟨none,.stA true 4 (.t 9) (.t 35),none⟩]
def c149_4 (F : Nat → Nat) : OL := [
 oV 36 (.field 3 (.t 3)),
 oV 37 (.load1 (.t 36)),
 oV 38 (.mov (.t 1)),
 oV 39 (.slS 4 (.t 37) none (some (.t 38))),
 oV 40 (.field 3 (.t 3)),
 oV 41 (.load1 (.t 40)),
 oV 42 (.mov (.t 1)),
 oV 43 (.bin .add true (.t 42) (.k (.int .i64 1))),
 oV 44 (.slS 4 (.t 41) (some (.t 43)) none),
 ⟨some 45,.buildS 1 2 [.nil 4] [(0,(.t 39)),(1,(.t 44))],none⟩,
 ⟨some 46,.call (F 146) [(.t 45)],none⟩,
 oV 47 (.field 3 (.t 3)),
 ⟨none,.st1 true (.t 47) (.t 46),none⟩]
def c149_5 : OL := [
 oV 48 (.mov (.t 2))]
def c149_6 : OL := [
 oV 49 (.loadA 4 (.t 3)),
 oV 50 (.loadA 4 (.t 9)),
 ⟨none,.stA true 4 (.t 6) (.t 49),none⟩,
 ⟨none,.stA true 4 (.t 7) (.t 50),none⟩,
 oV 8 (.mov (.k (.int .i64 8)))]
def c149_7 : OL := [
 oV 10 (.mov (.k (.int .i64 0)))]
def c149_8 : OL := [
 oV 51 (.field 1 (.t 9)),
 oV 52 (.load1 (.t 51))]
def c149_9 : OL := [
 oV 54 (.bin .eql false (.t 52) (.k (.int .i64 1))),
 oV 53 (.mov (.t 54))]
def c149_10 (F : Nat → Nat) : OL := [
 oV 56 (.field 0 (.t 3)),
 oV 57 (.loadA 2 (.t 56)),
 oV 58 (.field 2 (.t 9)),
 oV 59 (.load1 (.t 58)),
 ⟨some 60,.call (F 147) [(.t 59)],none⟩,
 ⟨some 61,.call (F 37) [(.t 57),(.t 60)],none⟩,
 oV 55 (.mov (.t 61)),
 oV 62 (.extr 0 (.t 55)),
 oV 63 (.extr 1 (.t 55)),
 oV 11 (.mov (.t 62)),
 oV 12 (.mov (.t 63))]
def c149_11 (F : Nat → Nat) : OL := [
 oV 65 (.field 0 (.t 3)),
 oV 66 (.loadA 2 (.t 65)),
 oV 67 (.field 2 (.t 9)),
 oV 68 (.load1 (.t 67)),
 ⟨some 69,.call (F 147) [(.t 68)],none⟩,
 oV 70 (.bin .add true (.t 69) (.k (.int .i64 1))),
 ⟨some 71,.call (F 37) [(.t 66),(.t 70)],none⟩,
 oV 64 (.mov (.t 71)),
 oV 72 (.extr 0 (.t 64)),
 oV 73 (.extr 1 (.t 64)),
 oV 13 (.mov (.t 72)),
 oV 14 (.mov (.t 73))]
def c149_12 : OL := [
 oV 74 (.mov (.t 11)),
 oV 75 (.mov (.t 13)),
 oV 76 (.bin .add false (.t 74) (.t 75)),
 oV 77 (.field 3 (.t 9)),
 ⟨none,.st1 true (.t 77) (.t 76),none⟩]
def c149_13 : OL := [
 oV 79 (.bin .eql false (.t 52) (.k (.int .i64 2))),
 oV 78 (.mov (.t 79))]
def c149_14 (F : Nat → Nat) : OL := [
 oV 81 (.field 0 (.t 3)),
 oV 82 (.loadA 2 (.t 81)),
 oV 83 (.loadA 4 (.t 9)),
 ⟨some 84,.call (F 148) [(.t 82),(.t 83)],none⟩,
 oV 80 (.mov (.t 84)),
 oV 85 (.extr 0 (.t 80)),
 oV 86 (.extr 1 (.t 80)),
 oV 87 (.field 0 (.t 3)),
 ⟨none,.stA true 2 (.t 87) (.t 85),none⟩,
 oV 10 (.mov (.t 86))]
def c149_15 : OL := [
 oV 89 (.bin .eql false (.t 52) (.k (.int .i64 3))),
 oV 88 (.mov (.t 89))]
def c149_16 (F : Nat → Nat) : OL := [
 oV 90 (.field 0 (.t 3)),
 oV 91 (.loadA 2 (.t 90)),
 ⟨some 92,.call (F 41) [(.t 91)],none⟩,
 oV 93 (.field 0 (.t 3)),
 ⟨none,.stA true 2 (.t 93) (.t 92),none⟩]
def c149_17 : OL := [
 oV 94 (.loadA 4 (.t 3)),
 oV 95 (.loadA 4 (.t 9)),
 oV 96 (.mov (.t 10)),
 ⟨none,.stA true 4 (.t 6) (.t 94),none⟩,
 ⟨none,.stA true 4 (.t 7) (.t 95),none⟩,
 oV 8 (.mov (.t 96))]
def device_Finish_c (F : Nat → Nat) : ACode :=
 (.seq
 (.reg c149_0 (some ([1,2,3,6,7],[3,6,7,45,1046])))
 (.seq
 (.seq
 (.reg (c149_1 F) (some ([1,2,3,6,7,28],[3,6,7,45,1046])))
 (.cond (.t 28)
 (.seq
 (.reg c149_2 (some ([6,7,8],[6,7,45,1046])))
 .ret)
 .skip))
 (.seq
 (.reg c149_3 (some ([1,2,3,6,7,9],[3,6,7,9,45,1046])))
 (.seq
 (.regD (c149_4 F) [] (some ([2,3,6,7,9],[3,6,7,9,45,1046])))
 (.seq
 (.seq
 (.reg c149_5 (some ([3,6,7,9,48],[3,6,7,9,45,1046])))
 (.cond (.t 48)
 (.seq
 (.regD c149_6 [(1,2)] (some ([6,7,8],[6,7,45,1046])))
 .ret)
 .skip))
 (.seq
 (.reg c149_7 (some ([3,6,7,9,10],[3,6,7,9,45,1046])))
 (.seq
 (.seq
 (.reg c149_8 (some ([3,6,7,9,10,52],[3,6,7,9,45,1046])))
 (.block 0
 (.seq
 (.reg c149_9 (some ([3,6,7,9,10,52,53],[3,6,7,9,45,1046])))
 (.cond (.t 53)
 (.seq
 (.regD (c149_10 F) [(0,4),(1,4)] (some ([3,6,7,9,10,11],[3,6,7,9,45,1046])))
 (.seq
 (.regD (c149_11 F) [(0,4),(1,4)] (some ([3,6,7,9,10,11,13],[3,6,7,9,45,1046])))
 (.reg c149_12 (some ([3,6,7,9,10],[3,6,7,9,45,1046])))))
 (.seq
 (.reg c149_13 (some ([3,6,7,9,10,52,78],[3,6,7,9,45,1046])))
 (.cond (.t 78)
 (.reg (c149_14 F) (some ([3,6,7,9,10],[3,6,7,9,45,1046])))
 (.seq
 (.reg c149_15 (some ([3,6,7,9,10,88],[3,6,7,9,45,1046])))
 (.cond (.t 88)
 (.reg (c149_16 F) (some ([3,6,7,9,10],[3,6,7,9,45,1046])))
 .skip))))))))
 (.seq
 (.regD c149_17 [(1,3),(2,3),(2,4)] (some ([6,7,8],[6,7,45,1046])))
 .ret))))))))
def device_Finish_k (P : Program) (F : Nat → Nat) : Prop := chkFn P (F 149) 3 (device_Finish_c F) [.loadA 4 (.t 6),.loadA 4 (.t 7),8] = true
def c173_0 : OL := [
 ⟨some 3,.box 4 (.t 0),none⟩,
 ⟨some 6,.alloc 4 [.nil 1,.nil 2,.int .i64 0,.nil 4],none⟩,
 ⟨some 7,.alloc 4 [.int .i64 0,.int .i64 0,.int .i64 0,.str []],none⟩,
 oV 8 (.mov (.k (.int .i64 0)))]
def c173_1 (F : Nat → Nat) : OL := [
 oV 15 (.loadA 4 (.t 3)),
 ⟨some 16,.call (F 171) [(.t 15)],none⟩,
 oV 17 (.not (.t 16)),
 oV 18 (.mov (.t 17)),
 oG 19 (.mov (.t 1)) 18 false,
 oG 20 (.bin .lss false (.t 19) (.k (.int .i64 0))) 18 false,
 oV 21 (.por (.t 18) (.t 20)),
 oV 22 (.mov (.t 21)),
 oG 23 (.mov (.t 1)) 22 false,
 oG 24 (.field 3 (.t 3)) 22 false,
 oG 25 (.load1 (.t 24)) 22 false,
 oG 26 (.lenS (.t 25)) 22 false,
 oG 27 (.bin .geq false (.t 23) (.t 26)) 22 false,
 oV 28 (.por (.t 22) (.t 27))]
def c173_2 : OL := [
 oV 29 (.loadA 4 (.t 3)),
 oV 30 (.build 4 [.int .i64 0,.int .i64 0,.int .i64 0,.str []] []),
 ⟨none,.stA true 4 (.t 6) (.t 29),none⟩,
 ⟨none,.stA true 4 (.t 7) (.t 30),none⟩,
 oV 8 (.mov (.k (.int .i64 1)))]
def c173_3 : OL := [
 oV 31 (.field 0 (.t 3)),
 oV 32 (.loadA 2 (.t 31)),
 oV 33 (.field 2 (.t 3)),
 oV 34 (.load1 (.t 33)),
 oV 35 (.build 4 [.nil 1,.nil 2,.int .i64 0,.nil 4] [(0,2,(.t 32)),(2,1,(.t 34))]),
 ⟨some 9,.alloc 4 [.nil 1,.nil 2,.int .i64 0,.nil 4],none⟩,
 ⟨none,.stA true 4 (.t 9) (.t 35),none⟩]
def c173_4 : OL := [
 oV 10 (.mov (.k (.int .i64 0)))]
def c173_5 : OL := [
 oV 36 (.mov (.t 10)),
 oV 37 (.field 3 (.t 3)),
 oV 38 (.load1 (.t 37)),
 oV 39 (.lenS (.t 38)),
 oV 40 (.bin .lss false (.t 36) (.t 39))]
def c173_7 : OL := [
 oV 43 (.mov (.t 10)),
 oV 44 (.mov (.t 1)),
 oV 45 (.bin .neq false (.t 43) (.t 44))]
def c173_8 : OL := [
 oV 46 (.field 3 (.t 9)),
 oV 47 (.load1 (.t 46)),
 oV 48 (.field 3 (.t 3)),
 oV 49 (.load1 (.t 48)),
 oV 50 (.mov (.t 10)),
 oV 51 (.ixS 4 (.t 49) (.t 50)),
 oV 52 (.loadA 4 (.t 51)),
 ⟨some 53,.buildS 4 1 [.int .i64 0,.int .i64 0,.int .i64 0,.str []] [(0,(.t 52))],none⟩,
 ⟨some 54,.app 4 40 (.t 47) (.t 53),none⟩,
 oV 55 (.field 3 (.t 9)),
 ⟨none,.st1 true (.t 55) (.t 54),none⟩]
def c173_6 : OL := [
 oV 41 (.mov (.t 10)),
 oV 42 (.bin .add true (.t 41) (.k (.int .i64 1))),
 oV 10 (.mov (.t 42))]
def c173_9 : OL := [
 oV 56 (.field 3 (.t 3)),
 oV 57 (.load1 (.t 56)),
 oV 58 (.mov (.t 1)),
 oV 59 (.ixS 4 (.t 57) (.t 58)),
 oV 60 (.loadA 4 (.t 59)),
 ⟨some 11,.alloc 4 [.int .i64 0,.int .i64 0,.int .i64 0,.str []],none⟩,
 ⟨none,.stA true 4 (.t 11) (.t 60),none⟩]
def c173_10 : OL := [
 oV 61 (.mov (.t 2))]
def c173_11 : OL := [
 oV 62 (.loadA 4 (.t 9)),
 oV 63 (.loadA 4 (.t 11)),
 ⟨none,.stA true 4 (.t 6) (.t 62),none⟩,
 ⟨none,.stA true 4 (.t 7) (.t 63),none⟩,
 oV 8 (.mov (.k (.int .i64 8)))]
def c173_12 : OL := [
 oV 64 (.field 2 (.t 11)),
 oV 65 (.load1 (.t 64)),
 oV 66 (.bin .mul true (.k (.int .i64 2)) (.t 65)),
 oV 67 (.bin .add true (.t 66) (.k (.int .i64 1))),
 oV 12 (.mov (.t 67))]
def c173_13 : OL := [
 oV 68 (.field 1 (.t 11)),
 oV 69 (.load1 (.t 68))]
def c173_15 : OL := [
 oV 75 (.bin .eql false (.t 69) (.k (.int .i64 1))),
 oV 74 (.mov (.t 75))]
def c173_16 (F : Nat → Nat) : OL := [
 oV 76 (.field 0 (.t 3)),
 oV 77 (.loadA 2 (.t 76)),
 oV 78 (.mov (.t 12)),
 ⟨some 79,.call (F 44) [(.t 77),(.t 78)],none⟩,
 oV 80 (.field 0 (.t 3)),
 oV 81 (.loadA 2 (.t 80)),
 oV 82 (.mov (.t 12)),
 oV 83 (.bin .add true (.t 82) (.k (.int .i64 1))),
 ⟨some 84,.call (F 44) [(.t 81),(.t 83)],none⟩,
 oV 85 (.bin .add false (.t 79) (.t 84)),
 oV 86 (.field 3 (.t 11)),
 ⟨none,.st1 true (.t 86) (.t 85),none⟩]
def c173_17 : OL := [
 oV 88 (.bin .eql false (.t 69) (.k (.int .i64 2))),
 oV 87 (.mov (.t 88))]
def c173_18 : OL := [
 oV 13 (.mov (.k (.nil 2)))]
def c173_19 : OL := [
 oV 89 (.mov (.t 13)),
 oV 90 (.field 0 (.t 3)),
 oV 91 (.field 1 (.t 90)),
 oV 92 (.load1 (.t 91)),
 ⟨some 93,.app 2 24 (.t 89) (.t 92),none⟩,
 oV 13 (.mov (.t 93))]
def c173_20 : OL := [
 oV 94 (.mov (.t 13)),
 oV 95 (.lenS (.t 94)),
 oV 96 (.bin .lss false (.t 95) (.k (.int .i64 200)))]
def c173_21 : OL := [
 oV 97 (.mov (.t 13)),
 oV 98 (.mov (.t 12)),
 oV 99 (.field 3 (.t 11)),
 oV 100 (.load1 (.t 99)),
 oV 101 (.slT (.t 100) none (some (.k (.int .i64 16)))),
 oV 102 (.build 2 [.int .i64 0,.str []] [(0,1,(.t 98)),(1,1,(.t 101))]),
 ⟨some 103,.buildS 2 1 [.int .i64 0,.str []] [(0,(.t 102))],none⟩,
 ⟨some 104,.app 2 24 (.t 97) (.t 103),none⟩,
 oV 13 (.mov (.t 104))]
def c173_22 : OL := [
 oV 105 (.loadA 4 (.t 9)),
 oV 106 (.loadA 4 (.t 11)),
 ⟨none,.stA true 4 (.t 6) (.t 105),none⟩,
 ⟨none,.stA true 4 (.t 7) (.t 106),none⟩,
 oV 8 (.mov (.k (.int .i64 7)))]
def c173_23 : OL := [
 oV 107 (.mov (.t 13)),
 oV 108 (.lenS (.t 107)),
 oV 109 (.bin .eql false (.t 108) (.k (.int .i64 200))),
 oV 14 (.mov (.t 109))]
def c173_24 : OL := [
 oV 110 (.mov (.t 14)),
 oV 111 (.not (.t 110))]
def c173_25 : OL := [
 oV 112 (.mov (.t 13)),
 oV 113 (.mov (.t 12)),
 oV 114 (.bin .add true (.t 113) (.k (.int .i64 1))),
 oV 115 (.field 3 (.t 11)),
 oV 116 (.load1 (.t 115)),
 oV 117 (.slT (.t 116) (some (.k (.int .i64 16))) none),
 oV 118 (.build 2 [.int .i64 0,.str []] [(0,1,(.t 114)),(1,1,(.t 117))]),
 ⟨some 119,.buildS 2 1 [.int .i64 0,.str []] [(0,(.t 118))],none⟩,
 ⟨some 120,.app 2 24 (.t 112) (.t 119),none⟩,
 oV 13 (.mov (.t 120))]
def c173_26 : OL := [
 oV 121 (.field 0 (.t 3)),
 oV 122 (.field 0 (.t 121)),
 oV 123 (.load1 (.t 122)),
 oV 124 (.mov (.t 13)),
 oV 125 (.build 2 [.nil 1,.nil 2] [(0,1,(.t 123)),(1,1,(.t 124))]),
 oV 126 (.field 0 (.t 9)),
 ⟨none,.stA true 2 (.t 126) (.t 125),none⟩]
def c173_27 : OL := [
 oV 127 (.mov (.t 14))]
def c173_28 : OL := [
 oV 128 (.loadA 4 (.t 9)),
 oV 129 (.loadA 4 (.t 11)),
 ⟨none,.stA true 4 (.t 6) (.t 128),none⟩,
 ⟨none,.stA true 4 (.t 7) (.t 129),none⟩,
 oV 8 (.mov (.k (.int .i64 7)))]
def c173_14 (F : Nat → Nat) : OL := [
 oV 70 (.field 0 (.t 3)),
 oV 71 (.loadA 2 (.t 70)),
 ⟨some 72,.call (F 42) [(.t 71)],none⟩,
 oV 73 (.field 0 (.t 9)),
 ⟨none,.stA true 2 (.t 73) (.t 72),none⟩]
def c173_29 : OL := [
 oV 130 (.loadA 4 (.t 9)),
 oV 131 (.loadA 4 (.t 11)),
 ⟨none,.stA true 4 (.t 6) (.t 130),none⟩,
 ⟨none,.stA true 4 (.t 7) (.t 131),none⟩,
 oV 8 (.mov (.k (.int .i64 0)))]
def ref04_Finish_c (F : Nat → Nat) : ACode :=
 (.seq
 (.reg c173_0 (some ([1,2,3,6,7],[3,6,7,53,54,93,103,104,119,120])))
 (.seq
 (.seq
 (.reg (c173_1 F) (some ([1,2,3,6,7,28],[3,6,7,53,54,93,103,104,119,120])))
 (.cond (.t 28)
 (.seq
 (.reg c173_2 (some ([6,7,8],[6,7,53,54,93,103,104,119,120])))
 .ret)
 .skip))
 (.seq
 (.reg c173_3 (some ([1,2,3,6,7,9],[3,6,7,9,53,54,93,103,104,119,120])))
 (.seq
 (.seq
 (.reg c173_4 (some ([1,2,3,6,7,9,10],[3,6,7,9,53,54,93,103,104,119,120])))
 (.block 0
 (.loop
 (.seq
 (.seq
 (.reg c173_5 (some ([1,2,3,6,7,9,10,40],[3,6,7,9,53,54,93,103,104,119,120])))
 (.cond (.t 40)
 .skip
 (.exit 0)))
 (.seq
 (.block 1
 (.seq
 (.reg c173_7 (some ([1,2,3,6,7,9,10,45],[3,6,7,9,53,54,93,103,104,119,120])))
 (.cond (.t 45)
 (.regD c173_8 [(0,7),(1,7)] (some ([1,2,3,6,7,9,10],[3,6,7,9,53,54,93,103,104,119,120])))
 .skip)))
 (.reg c173_6 (some ([1,2,3,6,7,9,10],[3,6,7,9,53,54,93,103,104,119,120]))))))))
 (.seq
 (.reg c173_9 (some ([2,3,6,7,9,11],[3,6,7,9,11,53,54,93,103,104,119,120])))
 (.seq
 (.seq
 (.reg c173_10 (some ([3,6,7,9,11,61],[3,6,7,9,11,53,54,93,103,104,119,120])))
 (.cond (.t 61)
 (.seq
 (.regD c173_11 [(1,2)] (some ([6,7,8],[6,7,53,54,93,103,104,119,120])))
 .ret)
 .skip))
 (.seq
 (.reg c173_12 (some ([3,6,7,9,11,12],[3,6,7,9,11,53,54,93,103,104,119,120])))
 (.seq
 (.seq
 (.reg c173_13 (some ([3,6,7,9,11,12,69],[3,6,7,9,11,53,54,93,103,104,119,120])))
 (.block 2
 (.seq
 (.reg c173_15 (some ([3,6,7,9,11,12,69,74],[3,6,7,9,11,53,54,93,103,104,119,120])))
 (.cond (.t 74)
 (.regD (c173_16 F) [(3,4),(3,5),(3,6),(3,7)] (some ([6,7,9,11],[6,7,9,11,53,54,93,103,104,119,120])))
 (.seq
 (.reg c173_17 (some ([3,6,7,9,11,12,87],[3,6,7,9,11,53,54,93,103,104,119,120])))
 (.cond (.t 87)
 (.seq
 (.reg c173_18 (some ([3,6,7,9,11,12,13],[3,6,7,9,11,53,54,93,103,104,119,120])))
 (.seq
 (.reg c173_19 (some ([3,6,7,9,11,12,13],[3,6,7,9,11,53,54,93,103,104,119,120])))
 (.seq
 (.seq
 (.reg c173_20 (some ([3,6,7,9,11,12,13,96],[3,6,7,9,11,53,54,93,103,104,119,120])))
 (.cond (.t 96)
 (.reg c173_21 (some ([3,6,7,9,11,12,13],[3,6,7,9,11,53,54,93,103,104,119,120])))
 (.seq
 (.regD c173_22 [(1,2)] (some ([6,7,8],[6,7,53,54,93,103,104,119,120])))
 .ret)))
 (.seq
 (.reg c173_23 (some ([3,6,7,9,11,12,13,14],[3,6,7,9,11,53,54,93,103,104,119,120])))
 (.seq
 (.seq
 (.reg c173_24 (some ([3,6,7,9,11,12,13,14,111],[3,6,7,9,11,53,54,93,103,104,119,120])))
 (.cond (.t 111)
 (.reg c173_25 (some ([3,6,7,9,11,13,14],[3,6,7,9,11,53,54,93,103,104,119,120])))
 .skip))
 (.seq
 (.reg c173_26 (some ([6,7,9,11,14],[6,7,9,11,53,54,93,103,104,119,120])))
 (.seq
 (.reg c173_27 (some ([6,7,9,11,127],[6,7,9,11,53,54,93,103,104,119,120])))
 (.cond (.t 127)
 (.seq
 (.regD c173_28 [(1,2)] (some ([6,7,8],[6,7,53,54,93,103,104,119,120])))
 .ret)
 .skip))))))))
 (.reg (c173_14 F) (some ([6,7,9,11],[6,7,9,11,53,54,93,103,104,119,120])))))))))
 (.seq
 (.regD c173_29 [(1,2)] (some ([6,7,8],[6,7,53,54,93,103,104,119,120])))
 .ret)))))))))
def ref04_Finish_k (P : Program) (F : Nat → Nat) : Prop := chkFn P (F 173) 3 (ref04_Finish_c F) [.loadA 4 (.t 6),.loadA 4 (.t 7),8] = true
def c174_0 : OL := [
 ⟨some 2,.box 4 (.t 0),none⟩,
 ⟨some 4,.alloc 4 [.nil 1,.nil 2,.int .i64 0,.nil 4],none⟩]
def c174_1 (F : Nat → Nat) : OL := [
 oV 5 (.loadA 4 (.t 2)),
 ⟨some 6,.call (F 145) [(.t 5)],none⟩,
 oV 7 (.not (.t 6))]
def c174_2 : OL := [
 oV 8 (.loadA 4 (.t 2)),
 ⟨none,.stA true 4 (.t 4) (.t 8),none⟩]
def c174_3 (F : Nat → Nat) : OL := [
 oV 9 (.field 0 (.t 2)),
 oV 10 (.loadA 2 (.t 9)),
 oV 11 (.mov (.t 1)),
 ⟨some 12,.call (F 33) [(.t 10),(.t 11)],none⟩,
 oV 13 (.field 0 (.t 2)),
 ⟨none,.stA true 2 (.t 13) (.t 12),none⟩]
def c174_4 : OL := [
 oV 14 (.field 3 (.t 2)),
 ⟨none,.st1 true (.t 14) (.k (.nil 4)),none⟩]
def c174_5 : OL := [
 oV 15 (.loadA 4 (.t 2)),
 ⟨none,.stA true 4 (.t 4) (.t 15),none⟩]
def device_Crash_c (F : Nat → Nat) : ACode :=
 (.seq
 (.reg c174_0 (some ([1,2,4],[2,4])))
 (.seq
 (.seq
 (.reg (c174_1 F) (some ([1,2,4,7],[2,4])))
 (.cond (.t 7)
 (.seq
 (.reg c174_2 (some ([4],[4])))
 .ret)
 .skip))
 (.seq
 (.reg (c174_3 F) (some ([2,4],[2,4])))
 (.seq
 (.reg c174_4 (some ([2,4],[2,4])))
 (.seq
 (.reg c174_5 (some ([4],[4])))
 .ret)))))
def device_Crash_k (P : Program) (F : Nat → Nat) : Prop := chkFn P (F 174) 2 (device_Crash_c F) [.loadA 4 (.t 4)] = true
def c188_0 : OL := [
 oV 6 (.mov (.k (.bool false)))]
def c188_1 : OL := [
 oV 7 (.mov (.t 0))]
def c188_2 : OL := [
 oV 9 (.bin .eql false (.t 7) (.k (.int .i64 1))),
 oV 8 (.mov (.t 9))]
def c188_3 : OL := [
 oV 10 (.mov (.t 1)),
 oV 11 (.bin .geq false (.t 10) (.k (.int .i64 1))),
 oV 12 (.mov (.t 11)),
 oG 13 (.mov (.t 1)) 12 true,
 oG 14 (.bin .leq false (.t 13) (.k (.int .i64 16))) 12 true,
 oV 15 (.pand (.t 12) (.t 14)),
 oV 16 (.mov (.t 15)),
 oG 17 (.mov (.t 2)) 16 true,
 oG 18 (.bin .eql false (.t 17) (.k (.str []))) 16 true,
 oV 19 (.pand (.t 16) (.t 18)),
 oV 6 (.mov (.t 19))]
def c188_4 : OL := [
 oV 21 (.bin .eql false (.t 7) (.k (.int .i64 2))),
 oV 20 (.mov (.t 21))]
def c188_5 : OL := [
 oV 22 (.mov (.t 1)),
 oV 23 (.bin .geq false (.t 22) (.k (.int .i64 1))),
 oV 24 (.mov (.t 23)),
 oG 25 (.mov (.t 1)) 24 true,
 oG 26 (.bin .leq false (.t 25) (.k (.int .i64 16))) 24 true,
 oV 27 (.pand (.t 24) (.t 26)),
 oV 28 (.mov (.t 27)),
 oG 29 (.mov (.t 2)) 28 true,
 oG 30 (.lenT (.t 29)) 28 true,
 oG 31 (.bin .eql false (.t 30) (.k (.int .i64 32))) 28 true,
 oV 32 (.pand (.t 28) (.t 31)),
 oV 6 (.mov (.t 32))]
def c188_6 : OL := [
 oV 34 (.bin .eql false (.t 7) (.k (.int .i64 3))),
 oV 33 (.mov (.t 34))]
def c188_7 : OL := [
 oV 35 (.mov (.t 1)),
 oV 36 (.bin .eql false (.t 35) (.k (.int .i64 0))),
 oV 37 (.mov (.t 36)),
 oG 38 (.mov (.t 2)) 37 true,
 oG 39 (.bin .eql false (.t 38) (.k (.str []))) 37 true,
 oV 40 (.pand (.t 37) (.t 39)),
 oV 6 (.mov (.t 40))]
def c188_8 : OL := [
 oV 6 (.mov (.k (.bool false)))]
def device_request_c : ACode :=
 (.seq
 (.reg c188_0 (some ([0,1,2],[])))
 (.seq
 (.seq
 (.reg c188_1 (some ([1,2,7],[])))
 (.block 0
 (.seq
 (.reg c188_2 (some ([1,2,7,8],[])))
 (.cond (.t 8)
 (.seq
 (.reg c188_3 (some ([6],[])))
 .ret)
 (.seq
 (.reg c188_4 (some ([1,2,7,20],[])))
 (.cond (.t 20)
 (.seq
 (.reg c188_5 (some ([6],[])))
 .ret)
 (.seq
 (.reg c188_6 (some ([1,2,33],[])))
 (.cond (.t 33)
 (.seq
 (.reg c188_7 (some ([6],[])))
 .ret)
 .skip))))))))
 (.seq
 (.reg c188_8 (some ([6],[])))
 .ret)))
def device_request_k (P : Program) (F : Nat → Nat) : Prop := chkFn P (F 188) 3 (device_request_c) [6] = true
def c189_0 : OL := [
 oV 2 (.mov (.k (.nil 4)))]
def c189_1 : OL := [
 oV 3 (.mov (.t 0)),
 oV 4 (.nilS (.t 3))]
def c189_2 : OL := [
 oV 2 (.mov (.k (.nil 4)))]
def c189_3 : OL := [
 ⟨some 5,.buildS 4 0 [.int .i64 0,.int .i64 0,.int .i64 0,.str []] [],none⟩,
 oV 6 (.mov (.t 0)),
 ⟨some 7,.app 4 40 (.t 5) (.t 6),none⟩,
 oV 2 (.mov (.t 7))]
def sl_Clone_device_Request_c : ACode :=
 (.seq
 (.reg c189_0 (some ([0],[5,7])))
 (.seq
 (.seq
 (.reg c189_1 (some ([0,4],[5,7])))
 (.cond (.t 4)
 (.seq
 (.reg c189_2 (some ([2],[5,7])))
 .ret)
 .skip))
 (.seq
 (.reg c189_3 (some ([2],[5,7])))
 .ret)))
def sl_Clone_device_Request_k (P : Program) (F : Nat → Nat) : Prop := chkFn P (F 189) 1 (sl_Clone_device_Request_c) [2] = true
def c190_0 : OL := [
 oV 6 (.mov (.k (.bool false)))]
def c190_1 : OL := [
 oV 7 (.mov (.t 0)),
 oV 8 (.bin .eql false (.t 7) (.k (.int .i64 3)))]
def c190_2 : OL := [
 oV 9 (.mov (.t 1)),
 oV 10 (.bin .eql false (.t 9) (.k (.int .i64 0))),
 oV 11 (.mov (.t 10)),
 oG 12 (.mov (.t 2)) 11 true,
 oG 13 (.bin .eql false (.t 12) (.k (.str []))) 11 true,
 oV 14 (.pand (.t 11) (.t 13)),
 oV 6 (.mov (.t 14))]
def c190_3 : OL := [
 oV 15 (.mov (.t 0)),
 oV 16 (.bin .neq false (.t 15) (.k (.int .i64 1))),
 oV 17 (.mov (.t 16)),
 oG 18 (.mov (.t 0)) 17 true,
 oG 19 (.bin .neq false (.t 18) (.k (.int .i64 2))) 17 true,
 oV 20 (.pand (.t 17) (.t 19)),
 oV 21 (.mov (.t 20)),
 oG 22 (.mov (.t 1)) 21 false,
 oG 23 (.bin .lss false (.t 22) (.k (.int .i64 1))) 21 false,
 oV 24 (.por (.t 21) (.t 23)),
 oV 25 (.mov (.t 24)),
 oG 26 (.mov (.t 1)) 25 false,
 oG 27 (.bin .gtr false (.t 26) (.k (.int .i64 16))) 25 false,
 oV 28 (.por (.t 25) (.t 27))]
def c190_4 : OL := [
 oV 6 (.mov (.k (.bool false)))]
def c190_5 : OL := [
 oV 29 (.mov (.t 0)),
 oV 30 (.bin .eql false (.t 29) (.k (.int .i64 1))),
 oV 31 (.mov (.t 30)),
 oG 32 (.mov (.t 2)) 31 true,
 oG 33 (.lenT (.t 32)) 31 true,
 oG 34 (.bin .eql false (.t 33) (.k (.int .i64 0))) 31 true,
 oV 35 (.pand (.t 31) (.t 34)),
 oV 36 (.mov (.t 35)),
 oG 37 (.mov (.t 0)) 36 false,
 oG 38 (.bin .eql false (.t 37) (.k (.int .i64 2))) 36 false,
 oG 39 (.mov (.t 38)) 36 false,
 oG 40 (.mov (.t 2)) 39 true,
 oG 41 (.lenT (.t 40)) 39 true,
 oG 42 (.bin .eql false (.t 41) (.k (.int .i64 32))) 39 true,
 oG 43 (.pand (.t 39) (.t 42)) 36 false,
 oV 44 (.por (.t 36) (.t 43)),
 oV 6 (.mov (.t 44))]
def ref04_May_c : ACode :=
 (.seq
 (.reg c190_0 (some ([0,1,2],[])))
 (.seq
 (.seq
 (.reg c190_1 (some ([0,1,2,8],[])))
 (.cond (.t 8)
 (.seq
 (.reg c190_2 (some ([6],[])))
 .ret)
 .skip))
 (.seq
 (.seq
 (.reg c190_3 (some ([0,2,28],[])))
 (.cond (.t 28)
 (.seq
 (.reg c190_4 (some ([6],[])))
 .ret)
 .skip))
 (.seq
 (.reg c190_5 (some ([6],[])))
 .ret))))
def ref04_May_k (P : Program) (F : Nat → Nat) : Prop := chkFn P (F 190) 3 (ref04_May_c) [6] = true
def c146_0 : OL := [
 oV 2 (.mov (.k (.nil 4)))]
def c146_1 : OL := [
 oV 3 (.mov (.k (.int .i64 0)))]
def c146_2 : OL := [
 oV 9 (.mov (.t 0)),
 oV 10 (.lenS (.t 9)),
 oV 11 (.mov (.k (.int .i64 0)))]
def c146_3 : OL := [
 oV 12 (.bin .lss false (.t 11) (.t 10))]
def c146_4 : OL := [
 oV 13 (.ixS 1 (.t 9) (.t 11)),
 oV 14 (.load1 (.t 13)),
 oV 5 (.mov (.t 14))]
def c146_5 : OL := [
 oV 15 (.mov (.t 3)),
 oV 16 (.mov (.t 5)),
 oV 17 (.lenS (.t 16)),
 oV 18 (.bin .add true (.t 15) (.t 17)),
 oV 3 (.mov (.t 18))]
def c146_6 : OL := [
 oV 19 (.mov (.t 3)),
 oV 20 (.bin .lss false (.t 19) (.k (.int .i64 0)))]
def c146_8 : OL := [
 oV 22 (.bin .add true (.t 11) (.k (.int .i64 1))),
 oV 11 (.mov (.t 22))]
def c146_9 (F : Nat → Nat) : OL := [
 oV 23 (.mov (.t 3)),
 ⟨some 24,.call (F 150) [(.k (.nil 4)),(.t 23)],none⟩,
 oV 6 (.mov (.t 24))]
def c146_10 : OL := [
 oV 25 (.mov (.t 0)),
 oV 26 (.lenS (.t 25)),
 oV 27 (.mov (.k (.int .i64 0)))]
def c146_11 : OL := [
 oV 28 (.bin .lss false (.t 27) (.t 26))]
def c146_12 : OL := [
 oV 29 (.ixS 1 (.t 25) (.t 27)),
 oV 30 (.load1 (.t 29)),
 oV 8 (.mov (.t 30))]
def c146_13 : OL := [
 oV 31 (.mov (.t 6)),
 oV 32 (.mov (.t 8)),
 ⟨some 33,.app 4 40 (.t 31) (.t 32),none⟩,
 oV 6 (.mov (.t 33))]
def c146_14 : OL := [
 oV 34 (.bin .add true (.t 27) (.k (.int .i64 1))),
 oV 27 (.mov (.t 34))]
def c146_15 : OL := [
 oV 35 (.mov (.t 6)),
 oV 2 (.mov (.t 35))]
def sl_Concat_device_Request_c (F : Nat → Nat) : ACode :=
 (.seq
 (.reg c146_0 (some ([0],[33,1024])))
 (.seq
 (.reg c146_1 (some ([0,3],[33,1024])))
 (.seq
 (.seq
 (.reg c146_2 (some ([0,3,9,10,11],[33,1024])))
 (.block 0
 (.loop
 (.seq
 (.reg c146_3 (some ([0,3,9,10,11,12],[33,1024])))
 (.seq
 (.cond (.t 12)
 .skip
 (.exit 0))
 (.seq
 (.block 1
 (.seq
 (.reg c146_4 (some ([0,3,5,9,10,11],[33,1024])))
 (.seq
 (.reg c146_5 (some ([0,3,9,10,11],[33,1024])))
 (.seq
 (.reg c146_6 (some ([0,3,9,10,11,20],[33,1024])))
 (.cond (.t 20)
 .halt
 .skip)))))
 (.reg c146_8 (some ([0,3,9,10,11],[33,1024])))))))))
 (.seq
 (.reg (c146_9 F) (some ([0,6],[33,1024])))
 (.seq
 (.seq
 (.reg c146_10 (some ([6,25,26,27],[33,1024])))
 (.block 2
 (.loop
 (.seq
 (.reg c146_11 (some ([6,25,26,27,28],[33,1024])))
 (.seq
 (.cond (.t 28)
 .skip
 (.exit 2))
 (.seq
 (.block 3
 (.seq
 (.reg c146_12 (some ([6,8,25,26,27],[33,1024])))
 (.reg c146_13 (some ([6,25,26,27],[33,1024])))))
 (.reg c146_14 (some ([6,25,26,27],[33,1024])))))))))
 (.seq
 (.reg c146_15 (some ([2],[33,1024])))
 .ret))))))
def sl_Concat_device_Request_k (P : Program) (F : Nat → Nat) : Prop := chkFn P (F 146) 1 (sl_Concat_device_Request_c F) [2] = true
def c147_0 : OL := [
 oV 2 (.mov (.k (.int .i64 0)))]
def c147_1 : OL := [
 oV 3 (.mov (.t 0)),
 oV 4 (.bin .mul true (.k (.int .i64 2)) (.t 3)),
 oV 5 (.bin .add true (.t 4) (.k (.int .i64 1))),
 oV 2 (.mov (.t 5))]
def device_home_c : ACode :=
 (.seq
 (.reg c147_0 (some ([0],[])))
 (.seq
 (.reg c147_1 (some ([2],[])))
 .ret))
def device_home_k (P : Program) (F : Nat → Nat) : Prop := chkFn P (F 147) 1 (device_home_c) [2] = true
def c148_0 : OL := [
 ⟨some 2,.box 2 (.t 0),none⟩,
 ⟨some 3,.box 4 (.t 1),none⟩,
 ⟨some 4,.alloc 2 [.nil 1,.nil 2],none⟩,
 oV 5 (.mov (.k (.int .i64 0)))]
def c148_1 : OL := [
 oV 10 (.mov (.k (.int .i64 0)))]
def c148_2 : OL := [
 oV 11 (.bin .lss false (.t 10) (.k (.int .i64 2)))]
def c148_3 : OL := [
 oV 12 (.mov (.t 10)),
 oV 6 (.mov (.t 12))]
def c148_4 (F : Nat → Nat) : OL := [
 oV 13 (.field 2 (.t 3)),
 oV 14 (.load1 (.t 13)),
 ⟨some 15,.call (F 147) [(.t 14)],none⟩,
 oV 16 (.mov (.t 6)),
 oV 17 (.bin .add true (.t 15) (.t 16)),
 oV 18 (.field 3 (.t 3)),
 oV 19 (.load1 (.t 18)),
 oV 20 (.mov (.t 6)),
 oV 21 (.bin .mul true (.t 20) (.k (.int .i64 16))),
 oV 22 (.mov (.t 6)),
 oV 23 (.bin .add true (.t 22) (.k (.int .i64 1))),
 oV 24 (.bin .mul true (.t 23) (.k (.int .i64 16))),
 oV 25 (.slT (.t 19) (some (.t 21)) (some (.t 24))),
 oV 26 (.build 2 [.int .i64 0,.str []] [(0,1,(.t 17)),(1,1,(.t 25))]),
 ⟨some 7,.alloc 2 [.int .i64 0,.str []],none⟩,
 ⟨none,.stA true 2 (.t 7) (.t 26),none⟩]
def c148_5 (F : Nat → Nat) : OL := [
 oV 28 (.loadA 2 (.t 2)),
 oV 29 (.loadA 2 (.t 7)),
 ⟨some 30,.call (F 36) [(.t 28),(.t 29)],none⟩,
 oV 27 (.mov (.t 30)),
 oV 31 (.extr 0 (.t 27)),
 oV 32 (.extr 1 (.t 27)),
 ⟨some 8,.alloc 2 [.nil 1,.nil 2],none⟩,
 ⟨none,.stA true 2 (.t 8) (.t 31),none⟩,
 oV 9 (.mov (.t 32))]
def c148_6 : OL := [
 oV 33 (.mov (.t 9)),
 oV 34 (.bin .neq false (.t 33) (.k (.int .i64 0)))]
def c148_7 : OL := [
 oV 35 (.loadA 2 (.t 2)),
 ⟨none,.stA true 2 (.t 4) (.t 35),none⟩,
 oV 5 (.mov (.k (.int .i64 7)))]
def c148_8 : OL := [
 oV 36 (.loadA 2 (.t 8)),
 ⟨none,.stA true 2 (.t 2) (.t 36),none⟩]
def c148_9 : OL := [
 oV 37 (.bin .add true (.t 10) (.k (.int .i64 1))),
 oV 10 (.mov (.t 37))]
def c148_10 : OL := [
 oV 38 (.loadA 2 (.t 2)),
 ⟨none,.stA true 2 (.t 4) (.t 38),none⟩,
 oV 5 (.mov (.k (.int .i64 0)))]
def device_put_c (F : Nat → Nat) : ACode :=
 (.seq
 (.reg c148_0 (some ([2,3,4],[2,3,4])))
 (.seq
 (.seq
 (.reg c148_1 (some ([2,3,4,10],[2,3,4])))
 (.block 0
 (.loop
 (.seq
 (.reg c148_2 (some ([2,3,4,10,11],[2,3,4])))
 (.seq
 (.cond (.t 11)
 .skip
 (.exit 0))
 (.seq
 (.block 1
 (.seq
 (.reg c148_3 (some ([2,3,4,6,10],[2,3,4])))
 (.seq
 (.regD (c148_4 F) [(2,3),(2,5),(2,6),(2,7),(2,8),(2,9),(2,10),(2,11),(2,12),(0,14),(1,14),(2,14),(3,14),(4,14),(5,14),(6,14),(7,14),(8,14),(9,14),(10,14),(11,14),(12,14),(13,14)] (some ([2,3,4,7,10],[2,3,4,7])))
 (.seq
 (.reg (c148_5 F) (some ([2,3,4,8,9,10],[2,3,4,8])))
 (.seq
 (.seq
 (.reg c148_6 (some ([2,3,4,8,10,34],[2,3,4,8])))
 (.cond (.t 34)
 (.seq
 (.reg c148_7 (some ([4,5],[4])))
 .ret)
 .skip))
 (.reg c148_8 (some ([2,3,4,10],[2,3,4]))))))))
 (.reg c148_9 (some ([2,3,4,10],[2,3,4])))))))))
 (.seq
 (.reg c148_10 (some ([4,5],[4])))
 .ret)))
def device_put_k (P : Program) (F : Nat → Nat) : Prop := chkFn P (F 148) 2 (device_put_c F) [.loadA 2 (.t 4),5] = true
def c150_0 : OL := [
 oV 4 (.mov (.k (.nil 4)))]
def c150_1 : OL := [
 oV 5 (.mov (.t 1)),
 oV 6 (.bin .lss false (.t 5) (.k (.int .i64 0)))]
def c150_3 : OL := [
 oV 8 (.mov (.t 1)),
 oV 9 (.mov (.t 0)),
 oV 10 (.capS (.t 9)),
 oV 11 (.mov (.t 0)),
 oV 12 (.lenS (.t 11)),
 oV 13 (.bin .sub true (.t 10) (.t 12)),
 oV 14 (.bin .sub true (.t 8) (.t 13)),
 oV 1 (.mov (.t 14))]
def c150_4 : OL := [
 oV 15 (.mov (.t 1)),
 oV 16 (.bin .gtr false (.t 15) (.k (.int .i64 0)))]
def c150_5 : OL := [
 oV 17 (.mov (.t 0)),
 oV 18 (.mov (.t 0)),
 oV 19 (.capS (.t 18)),
 oV 20 (.slS 4 (.t 17) none (some (.t 19))),
 oV 21 (.mov (.t 1)),
 ⟨some 22,.appZ 4 40 [.int .i64 0,.int .i64 0,.int .i64 0,.str []] (.t 20) (.t 21),none⟩,
 oV 23 (.mov (.t 0)),
 oV 24 (.lenS (.t 23)),
 oV 25 (.slS 4 (.t 22) none (some (.t 24))),
 oV 0 (.mov (.t 25))]
def c150_6 : OL := [
 oV 26 (.mov (.t 0)),
 oV 4 (.mov (.t 26))]
def sl_Grow_device_Request_c : ACode :=
 (.seq
 (.reg c150_0 (some ([0,1],[22])))
 (.seq
 (.seq
 (.reg c150_1 (some ([0,1,6],[22])))
 (.cond (.t 6)
 .halt
 .skip))
 (.seq
 (.seq
 (.reg c150_3 (some ([0,1],[22])))
 (.seq
 (.reg c150_4 (some ([0,1,16],[22])))
 (.cond (.t 16)
 (.reg c150_5 (some ([0],[22])))
 .skip)))
 (.seq
 (.reg c150_6 (some ([4],[22])))
 .ret))))
def sl_Grow_device_Request_k (P : Program) (F : Nat → Nat) : Prop := chkFn P (F 150) 2 (sl_Grow_device_Request_c) [4] = true
end Lk.C
namespace Lk.C
open Go Lk
def c28_0 : OL := [
 ⟨some 2,.alloc 2 [.nil 1,.nil 2],none⟩,
 oV 3 (.mov (.k (.int .i64 0)))]
def c28_1 : OL := [
 oV 6 (.mov (.t 0)),
 oV 7 (.bin .lss false (.t 6) (.k (.int .i64 1))),
 oV 8 (.mov (.t 7)),
 oG 9 (.mov (.t 0)) 8 false,
 oG 10 (.bin .gtr false (.t 9) (.k (.int .i64 64))) 8 false,
 oV 11 (.por (.t 8) (.t 10))]
def c28_2 : OL := [
 oV 12 (.build 2 [.nil 1,.nil 2] []),
 ⟨none,.stA true 2 (.t 2) (.t 12),none⟩,
 oV 3 (.mov (.k (.int .i64 1)))]
def c28_3 : OL := [
 oV 13 (.mov (.t 0)),
 ⟨some 14,.mk 1 16 [.str []] (.t 13),none⟩,
 oV 4 (.mov (.t 14))]
def c28_4 : OL := [
 oV 15 (.mov (.t 4)),
 oV 16 (.lenS (.t 15)),
 oV 17 (.mov (.k (.int .i64 0)))]
def c28_5 : OL := [
 oV 18 (.bin .lss false (.t 17) (.t 16))]
def c28_6 : OL := [
 oV 19 (.mov (.t 17)),
 oV 5 (.mov (.t 19))]
def c28_7 (F : Nat → Nat) : OL := [
 oV 20 (.mov (.t 4)),
 oV 21 (.mov (.t 5)),
 ⟨some 22,.call (F 49) [(.k (.str [0])),(.k (.int .i64 16))],none⟩,
 oV 23 (.ixS 1 (.t 20) (.t 21)),
 ⟨none,.st1 false (.t 23) (.t 22),none⟩]
def c28_8 : OL := [
 oV 24 (.bin .add true (.t 17) (.k (.int .i64 1))),
 oV 17 (.mov (.t 24))]
def c28_9 : OL := [
 oV 25 (.mov (.t 4)),
 oV 26 (.build 2 [.nil 1,.nil 2] [(0,1,(.t 25))]),
 ⟨none,.stA true 2 (.t 2) (.t 26),none⟩,
 oV 3 (.mov (.k (.int .i64 0)))]
def disk_New_c (F : Nat → Nat) : ACode :=
 (.seq
 (.reg c28_0 (some ([0,2],[2,14])))
 (.seq
 (.seq
 (.reg c28_1 (some ([0,2,11],[2,14])))
 (.cond (.t 11)
 (.seq
 (.reg c28_2 (some ([2,3],[2,14])))
 .ret)
 .skip))
 (.seq
 (.reg c28_3 (some ([2,4],[2,14])))
 (.seq
 (.seq
 (.reg c28_4 (some ([2,4,16,17],[2,14])))
 (.block 0
 (.loop
 (.seq
 (.reg c28_5 (some ([2,4,16,17,18],[2,14])))
 (.seq
 (.cond (.t 18)
 .skip
 (.exit 0))
 (.seq
 (.block 1
 (.seq
 (.reg c28_6 (some ([2,4,5,16,17],[2,14])))
 (.reg (c28_7 F) (some ([2,4,16,17],[2,14])))))
 (.reg c28_8 (some ([2,4,16,17],[2,14])))))))))
 (.seq
 (.reg c28_9 (some ([2,3],[2,14])))
 .ret)))))
def disk_New_k (P : Program) (F : Nat → Nat) : Prop := chkFn P (F 28) 1 (disk_New_c F) [.loadA 2 (.t 2),3] = true
def c29_0 : OL := [
 oV 0 (.mov (.k (.bool false)))]
def c29_1 (F : Nat → Nat) : OL := [
 ⟨some 9,.call (F 28) [(.k (.int .i64 2))],none⟩,
 oV 8 (.mov (.t 9)),
 oV 10 (.extr 0 (.t 8)),
 oV 11 (.extr 1 (.t 8)),
 ⟨some 1,.alloc 2 [.nil 1,.nil 2],none⟩,
 ⟨none,.stA true 2 (.t 1) (.t 10),none⟩,
 oV 2 (.mov (.t 11))]
def c29_2 (F : Nat → Nat) : OL := [
 oV 13 (.loadA 2 (.t 1)),
 oV 14 (.build 2 [.int .i64 0,.str []] [(0,1,(.k (.int .i64 1))),(1,1,(.k (.str [48,49,50,51,52,53,54,55,56,57,97,98,99,100,101,102])))]),
 ⟨some 15,.call (F 36) [(.t 13),(.t 14)],none⟩,
 oV 12 (.mov (.t 15)),
 oV 16 (.extr 0 (.t 12)),
 oV 17 (.extr 1 (.t 12)),
 ⟨none,.stA true 2 (.t 1) (.t 16),none⟩,
 oV 3 (.mov (.t 17))]
def c29_3 (F : Nat → Nat) : OL := [
 oV 19 (.loadA 2 (.t 1)),
 ⟨some 20,.call (F 37) [(.t 19),(.k (.int .i64 1))],none⟩,
 oV 18 (.mov (.t 20)),
 oV 21 (.extr 0 (.t 18)),
 oV 22 (.extr 1 (.t 18)),
 oV 4 (.mov (.t 21)),
 oV 5 (.mov (.t 22))]
def c29_4 (F : Nat → Nat) : OL := [
 oV 24 (.loadA 2 (.t 1)),
 ⟨some 25,.call (F 33) [(.t 24),(.k (.nil 1))],none⟩,
 ⟨some 26,.call (F 37) [(.t 25),(.k (.int .i64 1))],none⟩,
 oV 23 (.mov (.t 26)),
 oV 27 (.extr 0 (.t 23)),
 oV 28 (.extr 1 (.t 23)),
 oV 6 (.mov (.t 27)),
 oV 7 (.mov (.t 28))]
def c29_5 (F : Nat → Nat) : OL := [
 oV 29 (.mov (.t 2)),
 oV 30 (.bin .eql false (.t 29) (.k (.int .i64 0))),
 oV 31 (.mov (.t 30)),
 oG 32 (.mov (.t 3)) 31 true,
 oG 33 (.bin .eql false (.t 32) (.k (.int .i64 0))) 31 true,
 oV 34 (.pand (.t 31) (.t 33)),
 oV 35 (.mov (.t 34)),
 oG 36 (.mov (.t 4)) 35 true,
 oG 37 (.bin .eql false (.t 36) (.k (.str [48,49,50,51,52,53,54,55,56,57,97,98,99,100,101,102]))) 35 true,
 oV 38 (.pand (.t 35) (.t 37)),
 oV 39 (.mov (.t 38)),
 oG 40 (.mov (.t 5)) 39 true,
 oG 41 (.bin .eql false (.t 40) (.k (.int .i64 0))) 39 true,
 oV 42 (.pand (.t 39) (.t 41)),
 oV 43 (.mov (.t 42)),
 oG 44 (.mov (.t 6)) 43 true,
 oG 45 (.lenT (.t 44)) 43 true,
 oG 46 (.bin .eql false (.t 45) (.k (.int .i64 16))) 43 true,
 oV 47 (.pand (.t 43) (.t 46)),
 oV 48 (.mov (.t 47)),
 oG 49 (.mov (.t 6)) 48 true,
 oG 50 (.idx (.t 49) (.k (.int .i64 0))) 48 true,
 oG 51 (.bin .eql false (.t 50) (.k (.int .u8 0))) 48 true,
 oV 52 (.pand (.t 48) (.t 51)),
 oV 53 (.mov (.t 52)),
 oG 54 (.mov (.t 7)) 53 true,
 oG 55 (.bin .eql false (.t 54) (.k (.int .i64 0))) 53 true,
 oV 56 (.pand (.t 53) (.t 55)),
 oV 57 (.mov (.t 56)),
 oG 58 (.loadA 2 (.t 1)) 57 true,
 ⟨some 59,.call (F 40) [(.t 58)],some (57,true)⟩,
 oV 60 (.pand (.t 57) (.t 59)),
 oV 0 (.mov (.t 60))]
def law03_awake_c (F : Nat → Nat) : ACode :=
 (.seq
 (.reg c29_0 (some ([],[])))
 (.seq
 (.reg (c29_1 F) (some ([1,2],[1])))
 (.seq
 (.reg (c29_2 F) (some ([1,2,3],[1])))
 (.seq
 (.reg (c29_3 F) (some ([1,2,3,4,5],[1])))
 (.seq
 (.reg (c29_4 F) (some ([1,2,3,4,5,6,7],[1])))
 (.seq
 (.reg (c29_5 F) (some ([0],[])))
 .ret))))))
def law03_awake_k (P : Program) (F : Nat → Nat) : Prop := chkFn P (F 29) 0 (law03_awake_c F) [0] = true
def c31_0 : OL := [
 ⟨some 1,.box 2 (.t 0),none⟩,
 oV 2 (.mov (.k (.bool false)))]
def c31_1 : OL := [
 oV 5 (.field 0 (.t 1)),
 oV 6 (.load1 (.t 5)),
 oV 7 (.lenS (.t 6)),
 oV 8 (.bin .gtr false (.t 7) (.k (.int .i64 80))),
 oV 9 (.mov (.t 8)),
 oG 10 (.field 1 (.t 1)) 9 false,
 oG 11 (.load1 (.t 10)) 9 false,
 oG 12 (.lenS (.t 11)) 9 false,
 oG 13 (.bin .gtr false (.t 12) (.k (.int .i64 220))) 9 false,
 oV 14 (.por (.t 9) (.t 13))]
def c31_2 : OL := [
 oV 2 (.mov (.k (.bool false)))]
def c31_3 : OL := [
 oV 3 (.mov (.k (.int .i64 0)))]
def c31_4 : OL := [
 oV 15 (.mov (.t 3)),
 oV 16 (.field 0 (.t 1)),
 oV 17 (.load1 (.t 16)),
 oV 18 (.lenS (.t 17)),
 oV 19 (.bin .lss false (.t 15) (.t 18))]
def c31_6 : OL := [
 oV 22 (.field 0 (.t 1)),
 oV 23 (.load1 (.t 22)),
 oV 24 (.mov (.t 3)),
 oV 25 (.ixS 1 (.t 23) (.t 24)),
 oV 26 (.load1 (.t 25)),
 oV 27 (.lenT (.t 26)),
 oV 28 (.bin .gtr false (.t 27) (.k (.int .i64 40)))]
def c31_7 : OL := [
 oV 2 (.mov (.k (.bool false)))]
def c31_5 : OL := [
 oV 20 (.mov (.t 3)),
 oV 21 (.bin .add true (.t 20) (.k (.int .i64 1))),
 oV 3 (.mov (.t 21))]
def c31_8 : OL := [
 oV 4 (.mov (.k (.int .i64 0)))]
def c31_9 : OL := [
 oV 29 (.mov (.t 4)),
 oV 30 (.field 1 (.t 1)),
 oV 31 (.load1 (.t 30)),
 oV 32 (.lenS (.t 31)),
 oV 33 (.bin .lss false (.t 29) (.t 32))]
def c31_11 : OL := [
 oV 36 (.field 1 (.t 1)),
 oV 37 (.load1 (.t 36)),
 oV 38 (.mov (.t 4)),
 oV 39 (.ixS 2 (.t 37) (.t 38)),
 oV 40 (.field 1 (.t 39)),
 oV 41 (.load1 (.t 40)),
 oV 42 (.lenT (.t 41)),
 oV 43 (.bin .gtr false (.t 42) (.k (.int .i64 40)))]
def c31_12 : OL := [
 oV 2 (.mov (.k (.bool false)))]
def c31_10 : OL := [
 oV 34 (.mov (.t 4)),
 oV 35 (.bin .add true (.t 34) (.k (.int .i64 1))),
 oV 4 (.mov (.t 35))]
def c31_13 : OL := [
 oV 2 (.mov (.k (.bool true)))]
def ref03_Small_c : ACode :=
 (.seq
 (.reg c31_0 (some ([1],[1])))
 (.seq
 (.seq
 (.reg c31_1 (some ([1,14],[1])))
 (.cond (.t 14)
 (.seq
 (.reg c31_2 (some ([2],[])))
 .ret)
 .skip))
 (.seq
 (.seq
 (.reg c31_3 (some ([1,3],[1])))
 (.block 0
 (.loop
 (.seq
 (.seq
 (.reg c31_4 (some ([1,3,19],[1])))
 (.cond (.t 19)
 .skip
 (.exit 0)))
 (.seq
 (.block 1
 (.seq
 (.reg c31_6 (some ([1,3,28],[1])))
 (.cond (.t 28)
 (.seq
 (.reg c31_7 (some ([2],[])))
 .ret)
 .skip)))
 (.reg c31_5 (some ([1,3],[1]))))))))
 (.seq
 (.seq
 (.reg c31_8 (some ([1,4],[1])))
 (.block 2
 (.loop
 (.seq
 (.seq
 (.reg c31_9 (some ([1,4,33],[1])))
 (.cond (.t 33)
 .skip
 (.exit 2)))
 (.seq
 (.block 3
 (.seq
 (.reg c31_11 (some ([1,4,43],[1])))
 (.cond (.t 43)
 (.seq
 (.reg c31_12 (some ([2],[])))
 .ret)
 .skip)))
 (.reg c31_10 (some ([1,4],[1]))))))))
 (.seq
 (.reg c31_13 (some ([2],[])))
 .ret)))))
def ref03_Small_k (P : Program) (F : Nat → Nat) : Prop := chkFn P (F 31) 1 (ref03_Small_c) [2] = true
def c32_0 : OL := [
 ⟨some 1,.box 2 (.t 0),none⟩,
 oV 2 (.mov (.k (.bool false)))]
def c32_1 : OL := [
 oV 6 (.field 0 (.t 1)),
 oV 7 (.load1 (.t 6)),
 oV 8 (.lenS (.t 7)),
 oV 9 (.bin .lss false (.t 8) (.k (.int .i64 1))),
 oV 10 (.mov (.t 9)),
 oG 11 (.field 0 (.t 1)) 10 false,
 oG 12 (.load1 (.t 11)) 10 false,
 oG 13 (.lenS (.t 12)) 10 false,
 oG 14 (.bin .gtr false (.t 13) (.k (.int .i64 64))) 10 false,
 oV 15 (.por (.t 10) (.t 14)),
 oV 16 (.mov (.t 15)),
 oG 17 (.field 1 (.t 1)) 16 false,
 oG 18 (.load1 (.t 17)) 16 false,
 oG 19 (.lenS (.t 18)) 16 false,
 oG 20 (.bin .gtr false (.t 19) (.k (.int .i64 200))) 16 false,
 oV 21 (.por (.t 16) (.t 20))]
def c32_2 : OL := [
 oV 2 (.mov (.k (.bool false)))]
def c32_3 : OL := [
 oV 3 (.mov (.k (.int .i64 0)))]
def c32_4 : OL := [
 oV 22 (.mov (.t 3)),
 oV 23 (.field 0 (.t 1)),
 oV 24 (.load1 (.t 23)),
 oV 25 (.lenS (.t 24)),
 oV 26 (.bin .lss false (.t 22) (.t 25))]
def c32_6 : OL := [
 oV 29 (.field 0 (.t 1)),
 oV 30 (.load1 (.t 29)),
 oV 31 (.mov (.t 3)),
 oV 32 (.ixS 1 (.t 30) (.t 31)),
 oV 33 (.load1 (.t 32)),
 oV 34 (.lenT (.t 33)),
 oV 35 (.bin .neq false (.t 34) (.k (.int .i64 16)))]
def c32_7 : OL := [
 oV 2 (.mov (.k (.bool false)))]
def c32_5 : OL := [
 oV 27 (.mov (.t 3)),
 oV 28 (.bin .add true (.t 27) (.k (.int .i64 1))),
 oV 3 (.mov (.t 28))]
def c32_8 : OL := [
 oV 4 (.mov (.k (.int .i64 0)))]
def c32_9 : OL := [
 oV 36 (.mov (.t 4)),
 oV 37 (.field 1 (.t 1)),
 oV 38 (.load1 (.t 37)),
 oV 39 (.lenS (.t 38)),
 oV 40 (.bin .lss false (.t 36) (.t 39))]
def c32_11 : OL := [
 oV 43 (.field 1 (.t 1)),
 oV 44 (.load1 (.t 43)),
 oV 45 (.mov (.t 4)),
 oV 46 (.ixS 2 (.t 44) (.t 45)),
 oV 47 (.loadA 2 (.t 46)),
 ⟨some 5,.alloc 2 [.int .i64 0,.str []],none⟩,
 ⟨none,.stA true 2 (.t 5) (.t 47),none⟩]
def c32_12 : OL := [
 oV 48 (.field 0 (.t 5)),
 oV 49 (.load1 (.t 48)),
 oV 50 (.bin .lss false (.t 49) (.k (.int .i64 0))),
 oV 51 (.mov (.t 50)),
 oG 52 (.field 0 (.t 5)) 51 false,
 oG 53 (.load1 (.t 52)) 51 false,
 oG 54 (.field 0 (.t 1)) 51 false,
 oG 55 (.load1 (.t 54)) 51 false,
 oG 56 (.lenS (.t 55)) 51 false,
 oG 57 (.bin .geq false (.t 53) (.t 56)) 51 false,
 oV 58 (.por (.t 51) (.t 57)),
 oV 59 (.mov (.t 58)),
 oG 60 (.field 1 (.t 5)) 59 false,
 oG 61 (.load1 (.t 60)) 59 false,
 oG 62 (.lenT (.t 61)) 59 false,
 oG 63 (.bin .neq false (.t 62) (.k (.int .i64 16))) 59 false,
 oV 64 (.por (.t 59) (.t 63))]
def c32_13 : OL := [
 oV 2 (.mov (.k (.bool false)))]
def c32_10 : OL := [
 oV 41 (.mov (.t 4)),
 oV 42 (.bin .add true (.t 41) (.k (.int .i64 1))),
 oV 4 (.mov (.t 42))]
def c32_14 : OL := [
 oV 2 (.mov (.k (.bool true)))]
def ref03_Right_c : ACode :=
 (.seq
 (.reg c32_0 (some ([1],[1])))
 (.seq
 (.seq
 (.reg c32_1 (some ([1,21],[1])))
 (.cond (.t 21)
 (.seq
 (.reg c32_2 (some ([2],[])))
 .ret)
 .skip))
 (.seq
 (.seq
 (.reg c32_3 (some ([1,3],[1])))
 (.block 0
 (.loop
 (.seq
 (.seq
 (.reg c32_4 (some ([1,3,26],[1])))
 (.cond (.t 26)
 .skip
 (.exit 0)))
 (.seq
 (.block 1
 (.seq
 (.reg c32_6 (some ([1,3,35],[1])))
 (.cond (.t 35)
 (.seq
 (.reg c32_7 (some ([2],[])))
 .ret)
 .skip)))
 (.reg c32_5 (some ([1,3],[1]))))))))
 (.seq
 (.seq
 (.reg c32_8 (some ([1,4],[1])))
 (.block 2
 (.loop
 (.seq
 (.seq
 (.reg c32_9 (some ([1,4,40],[1])))
 (.cond (.t 40)
 .skip
 (.exit 2)))
 (.seq
 (.block 3
 (.seq
 (.reg c32_11 (some ([1,4,5],[1,5])))
 (.seq
 (.reg c32_12 (some ([1,4,64],[1])))
 (.cond (.t 64)
 (.seq
 (.reg c32_13 (some ([2],[])))
 .ret)
 .skip))))
 (.reg c32_10 (some ([1,4],[1]))))))))
 (.seq
 (.reg c32_14 (some ([2],[])))
 .ret)))))
def ref03_Right_k (P : Program) (F : Nat → Nat) : Prop := chkFn P (F 32) 1 (ref03_Right_c) [2] = true
def c33_0 : OL := [
 ⟨some 2,.box 2 (.t 0),none⟩,
 ⟨some 4,.alloc 2 [.nil 1,.nil 2],none⟩]
def c33_1 (F : Nat → Nat) : OL := [
 oV 11 (.loadA 2 (.t 2)),
 ⟨some 12,.call (F 40) [(.t 11)],none⟩,
 oV 13 (.not (.t 12))]
def c33_2 : OL := [
 oV 14 (.loadA 2 (.t 2)),
 ⟨none,.stA true 2 (.t 4) (.t 14),none⟩]
def c33_3 : OL := [
 oV 15 (.field 1 (.t 2)),
 oV 16 (.load1 (.t 15)),
 oV 17 (.lenS (.t 16)),
 ⟨some 18,.mk 1 1 [.bool false] (.t 17),none⟩,
 oV 5 (.mov (.t 18))]
def c33_4 : OL := [
 oV 19 (.mov (.t 1)),
 oV 20 (.lenS (.t 19)),
 oV 21 (.mov (.k (.int .i64 0)))]
def c33_5 : OL := [
 oV 22 (.bin .lss false (.t 21) (.t 20))]
def c33_6 : OL := [
 oV 23 (.ixS 1 (.t 19) (.t 21)),
 oV 24 (.load1 (.t 23)),
 oV 7 (.mov (.t 24))]
def c33_7 : OL := [
 oV 25 (.mov (.t 7)),
 oV 26 (.bin .geq false (.t 25) (.k (.int .i64 0))),
 oV 27 (.mov (.t 26)),
 oG 28 (.mov (.t 7)) 27 true,
 oG 29 (.mov (.t 5)) 27 true,
 oG 30 (.lenS (.t 29)) 27 true,
 oG 31 (.bin .lss false (.t 28) (.t 30)) 27 true,
 oV 32 (.pand (.t 27) (.t 31))]
def c33_8 : OL := [
 oV 33 (.mov (.t 5)),
 oV 34 (.mov (.t 7)),
 oV 35 (.ixS 1 (.t 33) (.t 34)),
 ⟨none,.st1 false (.t 35) (.k (.bool true)),none⟩]
def c33_9 : OL := [
 oV 36 (.bin .add true (.t 21) (.k (.int .i64 1))),
 oV 21 (.mov (.t 36))]
def c33_10 : OL := [
 oV 8 (.mov (.k (.nil 2)))]
def c33_11 : OL := [
 oV 37 (.field 1 (.t 2)),
 oV 38 (.load1 (.t 37)),
 oV 39 (.lenS (.t 38)),
 oV 40 (.mov (.k (.int .i64 0)))]
def c33_12 : OL := [
 oV 41 (.bin .lss false (.t 40) (.t 39))]
def c33_13 : OL := [
 oV 42 (.mov (.t 40)),
 oV 43 (.ixS 2 (.t 38) (.t 40)),
 oV 44 (.loadA 2 (.t 43)),
 ⟨some 10,.alloc 2 [.int .i64 0,.str []],none⟩,
 oV 9 (.mov (.t 42)),
 ⟨none,.stA true 2 (.t 10) (.t 44),none⟩]
def c33_14 : OL := [
 oV 45 (.mov (.t 5)),
 oV 46 (.mov (.t 9)),
 oV 47 (.ixS 1 (.t 45) (.t 46)),
 oV 48 (.load1 (.t 47))]
def c33_15 : OL := [
 oV 49 (.mov (.t 8)),
 oV 50 (.loadA 2 (.t 10)),
 ⟨some 51,.buildS 2 1 [.int .i64 0,.str []] [(0,(.t 50))],none⟩,
 ⟨some 52,.app 2 24 (.t 49) (.t 51),none⟩,
 oV 8 (.mov (.t 52))]
def c33_16 : OL := [
 oV 53 (.bin .add true (.t 40) (.k (.int .i64 1))),
 oV 40 (.mov (.t 53))]
def c33_17 (F : Nat → Nat) : OL := [
 oV 54 (.loadA 2 (.t 2)),
 oV 55 (.mov (.t 8)),
 ⟨some 56,.call (F 50) [(.t 54),(.t 55)],none⟩,
 ⟨none,.stA true 2 (.t 4) (.t 56),none⟩]
def disk_Crash_c (F : Nat → Nat) : ACode :=
 (.seq
 (.reg c33_0 (some ([1,2,4],[2,4,18,51,52])))
 (.seq
 (.seq
 (.reg (c33_1 F) (some ([1,2,4,13],[2,4,18,51,52])))
 (.cond (.t 13)
 (.seq
 (.reg c33_2 (some ([4],[4,18,51,52])))
 .ret)
 .skip))
 (.seq
 (.reg c33_3 (some ([1,2,4,5],[2,4,18,51,52])))
 (.seq
 (.seq
 (.reg c33_4 (some ([2,4,5,19,20,21],[2,4,18,51,52])))
 (.block 0
 (.loop
 (.seq
 (.reg c33_5 (some ([2,4,5,19,20,21,22],[2,4,18,51,52])))
 (.seq
 (.cond (.t 22)
 .skip
 (.exit 0))
 (.seq
 (.block 1
 (.seq
 (.reg c33_6 (some ([2,4,5,7,19,20,21],[2,4,18,51,52])))
 (.seq
 (.reg c33_7 (some ([2,4,5,7,19,20,21,32],[2,4,18,51,52])))
 (.cond (.t 32)
 (.reg c33_8 (some ([2,4,5,19,20,21],[2,4,18,51,52])))
 .skip))))
 (.reg c33_9 (some ([2,4,5,19,20,21],[2,4,18,51,52])))))))))
 (.seq
 (.reg c33_10 (some ([2,4,5,8],[2,4,18,51,52])))
 (.seq
 (.seq
 (.reg c33_11 (some ([2,4,5,8,38,39,40],[2,4,18,51,52])))
 (.block 2
 (.loop
 (.seq
 (.reg c33_12 (some ([2,4,5,8,38,39,40,41],[2,4,18,51,52])))
 (.seq
 (.cond (.t 41)
 .skip
 (.exit 2))
 (.seq
 (.block 3
 (.seq
 (.reg c33_13 (some ([2,4,5,8,9,10,38,39,40],[2,4,10,18,51,52])))
 (.seq
 (.reg c33_14 (some ([2,4,5,8,10,38,39,40,48],[2,4,10,18,51,52])))
 (.cond (.t 48)
 (.reg c33_15 (some ([2,4,5,8,38,39,40],[2,4,18,51,52])))
 .skip))))
 (.reg c33_16 (some ([2,4,5,8,38,39,40],[2,4,18,51,52])))))))))
 (.seq
 (.reg (c33_17 F) (some ([4],[4,18,51,52])))
 .ret)))))))
def disk_Crash_k (P : Program) (F : Nat → Nat) : Prop := chkFn P (F 33) 2 (disk_Crash_c F) [.loadA 2 (.t 4)] = true
def c36_0 : OL := [
 ⟨some 2,.box 2 (.t 0),none⟩,
 ⟨some 3,.box 2 (.t 1),none⟩,
 ⟨some 4,.alloc 2 [.nil 1,.nil 2],none⟩,
 oV 5 (.mov (.k (.int .i64 0)))]
def c36_1 (F : Nat → Nat) : OL := [
 oV 6 (.loadA 2 (.t 2)),
 ⟨some 7,.call (F 40) [(.t 6)],none⟩,
 oV 8 (.not (.t 7)),
 oV 9 (.mov (.t 8)),
 oG 10 (.loadA 2 (.t 2)) 9 false,
 oG 11 (.loadA 2 (.t 3)) 9 false,
 ⟨some 12,.call (F 51) [(.t 10),(.t 11)],some (9,false)⟩,
 oG 13 (.not (.t 12)) 9 false,
 oV 14 (.por (.t 9) (.t 13))]
def c36_2 : OL := [
 oV 15 (.loadA 2 (.t 2)),
 ⟨none,.stA true 2 (.t 4) (.t 15),none⟩,
 oV 5 (.mov (.k (.int .i64 1)))]
def c36_3 : OL := [
 oV 16 (.field 1 (.t 2)),
 oV 17 (.load1 (.t 16)),
 oV 18 (.lenS (.t 17)),
 oV 19 (.bin .geq false (.t 18) (.k (.int .i64 200)))]
def c36_4 : OL := [
 oV 20 (.loadA 2 (.t 2)),
 ⟨none,.stA true 2 (.t 4) (.t 20),none⟩,
 oV 5 (.mov (.k (.int .i64 7)))]
def c36_5 (F : Nat → Nat) : OL := [
 oV 21 (.field 1 (.t 2)),
 oV 22 (.load1 (.t 21)),
 ⟨some 23,.call (F 52) [(.t 22)],none⟩,
 oV 24 (.loadA 2 (.t 3)),
 ⟨some 25,.buildS 2 1 [.int .i64 0,.str []] [(0,(.t 24))],none⟩,
 ⟨some 26,.app 2 24 (.t 23) (.t 25),none⟩,
 oV 27 (.field 1 (.t 2)),
 ⟨none,.st1 true (.t 27) (.t 26),none⟩]
def c36_6 : OL := [
 oV 28 (.loadA 2 (.t 2)),
 ⟨none,.stA true 2 (.t 4) (.t 28),none⟩,
 oV 5 (.mov (.k (.int .i64 0)))]
def disk_Put_c (F : Nat → Nat) : ACode :=
 (.seq
 (.reg c36_0 (some ([2,3,4],[2,3,4,25,26,1023])))
 (.seq
 (.seq
 (.reg (c36_1 F) (some ([2,3,4,14],[2,3,4,25,26,1023])))
 (.cond (.t 14)
 (.seq
 (.reg c36_2 (some ([4,5],[4,25,26,1023])))
 .ret)
 .skip))
 (.seq
 (.seq
 (.reg c36_3 (some ([2,3,4,19],[2,3,4,25,26,1023])))
 (.cond (.t 19)
 (.seq
 (.reg c36_4 (some ([4,5],[4,25,26,1023])))
 .ret)
 .skip))
 (.seq
 (.regD (c36_5 F) [(2,3),(0,4),(1,4),(2,4)] (some ([2,4],[2,4,25,26,1023])))
 (.seq
 (.reg c36_6 (some ([4,5],[4,25,26,1023])))
 .ret)))))
def disk_Put_k (P : Program) (F : Nat → Nat) : Prop := chkFn P (F 36) 2 (disk_Put_c F) [.loadA 2 (.t 4),5] = true
def c38_0 : OL := [
 ⟨some 2,.box 2 (.t 0),none⟩,
 ⟨some 3,.box 2 (.t 1),none⟩,
 oV 4 (.mov (.k (.bool false)))]
def c38_1 : OL := [
 oV 7 (.field 0 (.t 2)),
 oV 8 (.load1 (.t 7)),
 oV 9 (.lenS (.t 8)),
 oV 10 (.field 0 (.t 3)),
 oV 11 (.load1 (.t 10)),
 oV 12 (.lenS (.t 11)),
 oV 13 (.bin .neq false (.t 9) (.t 12)),
 oV 14 (.mov (.t 13)),
 oG 15 (.field 1 (.t 2)) 14 false,
 oG 16 (.load1 (.t 15)) 14 false,
 oG 17 (.lenS (.t 16)) 14 false,
 oG 18 (.field 1 (.t 3)) 14 false,
 oG 19 (.load1 (.t 18)) 14 false,
 oG 20 (.lenS (.t 19)) 14 false,
 oG 21 (.bin .neq false (.t 17) (.t 20)) 14 false,
 oV 22 (.por (.t 14) (.t 21))]
def c38_2 : OL := [
 oV 4 (.mov (.k (.bool false)))]
def c38_3 : OL := [
 oV 5 (.mov (.k (.int .i64 0)))]
def c38_4 : OL := [
 oV 23 (.mov (.t 5)),
 oV 24 (.field 0 (.t 2)),
 oV 25 (.load1 (.t 24)),
 oV 26 (.lenS (.t 25)),
 oV 27 (.bin .lss false (.t 23) (.t 26))]
def c38_6 : OL := [
 oV 30 (.field 0 (.t 2)),
 oV 31 (.load1 (.t 30)),
 oV 32 (.mov (.t 5)),
 oV 33 (.ixS 1 (.t 31) (.t 32)),
 oV 34 (.load1 (.t 33)),
 oV 35 (.field 0 (.t 3)),
 oV 36 (.load1 (.t 35)),
 oV 37 (.mov (.t 5)),
 oV 38 (.ixS 1 (.t 36) (.t 37)),
 oV 39 (.load1 (.t 38)),
 oV 40 (.bin .neq false (.t 34) (.t 39))]
def c38_7 : OL := [
 oV 4 (.mov (.k (.bool false)))]
def c38_5 : OL := [
 oV 28 (.mov (.t 5)),
 oV 29 (.bin .add true (.t 28) (.k (.int .i64 1))),
 oV 5 (.mov (.t 29))]
def c38_8 : OL := [
 oV 6 (.mov (.k (.int .i64 0)))]
def c38_9 : OL := [
 oV 41 (.mov (.t 6)),
 oV 42 (.field 1 (.t 2)),
 oV 43 (.load1 (.t 42)),
 oV 44 (.lenS (.t 43)),
 oV 45 (.bin .lss false (.t 41) (.t 44))]
def c38_11 : OL := [
 oV 48 (.field 1 (.t 2)),
 oV 49 (.load1 (.t 48)),
 oV 50 (.mov (.t 6)),
 oV 51 (.ixS 2 (.t 49) (.t 50)),
 oV 52 (.loadA 2 (.t 51)),
 oV 53 (.field 1 (.t 3)),
 oV 54 (.load1 (.t 53)),
 oV 55 (.mov (.t 6)),
 oV 56 (.ixS 2 (.t 54) (.t 55)),
 oV 57 (.loadA 2 (.t 56)),
 oV 58 (.eqA true [0,2] (.t 52) (.t 57))]
def c38_12 : OL := [
 oV 4 (.mov (.k (.bool false)))]
def c38_10 : OL := [
 oV 46 (.mov (.t 6)),
 oV 47 (.bin .add true (.t 46) (.k (.int .i64 1))),
 oV 6 (.mov (.t 47))]
def c38_13 : OL := [
 oV 4 (.mov (.k (.bool true)))]
def ref03_Same_c : ACode :=
 (.seq
 (.reg c38_0 (some ([2,3],[2,3])))
 (.seq
 (.seq
 (.reg c38_1 (some ([2,3,22],[2,3])))
 (.cond (.t 22)
 (.seq
 (.reg c38_2 (some ([4],[])))
 .ret)
 .skip))
 (.seq
 (.seq
 (.reg c38_3 (some ([2,3,5],[2,3])))
 (.block 0
 (.loop
 (.seq
 (.seq
 (.reg c38_4 (some ([2,3,5,27],[2,3])))
 (.cond (.t 27)
 .skip
 (.exit 0)))
 (.seq
 (.block 1
 (.seq
 (.regD c38_6 [] (some ([2,3,5,40],[2,3])))
 (.cond (.t 40)
 (.seq
 (.reg c38_7 (some ([4],[])))
 .ret)
 .skip)))
 (.reg c38_5 (some ([2,3,5],[2,3]))))))))
 (.seq
 (.seq
 (.reg c38_8 (some ([2,3,6],[2,3])))
 (.block 2
 (.loop
 (.seq
 (.seq
 (.reg c38_9 (some ([2,3,6,45],[2,3])))
 (.cond (.t 45)
 .skip
 (.exit 2)))
 (.seq
 (.block 3
 (.seq
 (.regD c38_11 [] (some ([2,3,6,58],[2,3])))
 (.cond (.t 58)
 (.seq
 (.reg c38_12 (some ([4],[])))
 .ret)
 .skip)))
 (.reg c38_10 (some ([2,3,6],[2,3]))))))))
 (.seq
 (.reg c38_13 (some ([4],[])))
 .ret)))))
def ref03_Same_k (P : Program) (F : Nat → Nat) : Prop := chkFn P (F 38) 2 (ref03_Same_c) [4] = true
def c40_0 : OL := [
 ⟨some 1,.box 2 (.t 0),none⟩,
 oV 2 (.mov (.k (.bool false)))]
def c40_1 : OL := [
 oV 7 (.field 0 (.t 1)),
 oV 8 (.load1 (.t 7)),
 oV 9 (.lenS (.t 8)),
 oV 10 (.bin .lss false (.t 9) (.k (.int .i64 1))),
 oV 11 (.mov (.t 10)),
 oG 12 (.field 0 (.t 1)) 11 false,
 oG 13 (.load1 (.t 12)) 11 false,
 oG 14 (.lenS (.t 13)) 11 false,
 oG 15 (.bin .gtr false (.t 14) (.k (.int .i64 64))) 11 false,
 oV 16 (.por (.t 11) (.t 15)),
 oV 17 (.mov (.t 16)),
 oG 18 (.field 1 (.t 1)) 17 false,
 oG 19 (.load1 (.t 18)) 17 false,
 oG 20 (.lenS (.t 19)) 17 false,
 oG 21 (.bin .gtr false (.t 20) (.k (.int .i64 200))) 17 false,
 oV 22 (.por (.t 17) (.t 21))]
def c40_2 : OL := [
 oV 2 (.mov (.k (.bool false)))]
def c40_3 : OL := [
 oV 23 (.field 0 (.t 1)),
 oV 24 (.load1 (.t 23)),
 oV 25 (.lenS (.t 24)),
 oV 26 (.mov (.k (.int .i64 0)))]
def c40_4 : OL := [
 oV 27 (.bin .lss false (.t 26) (.t 25))]
def c40_5 : OL := [
 oV 28 (.ixS 1 (.t 24) (.t 26)),
 oV 29 (.load1 (.t 28)),
 oV 4 (.mov (.t 29))]
def c40_6 : OL := [
 oV 30 (.mov (.t 4)),
 oV 31 (.lenT (.t 30)),
 oV 32 (.bin .neq false (.t 31) (.k (.int .i64 16)))]
def c40_7 : OL := [
 oV 2 (.mov (.k (.bool false)))]
def c40_8 : OL := [
 oV 33 (.bin .add true (.t 26) (.k (.int .i64 1))),
 oV 26 (.mov (.t 33))]
def c40_9 : OL := [
 oV 34 (.field 1 (.t 1)),
 oV 35 (.load1 (.t 34)),
 oV 36 (.lenS (.t 35)),
 oV 37 (.mov (.k (.int .i64 0)))]
def c40_10 : OL := [
 oV 38 (.bin .lss false (.t 37) (.t 36))]
def c40_11 : OL := [
 oV 39 (.ixS 2 (.t 35) (.t 37)),
 oV 40 (.loadA 2 (.t 39)),
 ⟨some 6,.alloc 2 [.int .i64 0,.str []],none⟩,
 ⟨none,.stA true 2 (.t 6) (.t 40),none⟩]
def c40_12 (F : Nat → Nat) : OL := [
 oV 41 (.loadA 2 (.t 1)),
 oV 42 (.loadA 2 (.t 6)),
 ⟨some 43,.call (F 51) [(.t 41),(.t 42)],none⟩,
 oV 44 (.not (.t 43))]
def c40_13 : OL := [
 oV 2 (.mov (.k (.bool false)))]
def c40_14 : OL := [
 oV 45 (.bin .add true (.t 37) (.k (.int .i64 1))),
 oV 37 (.mov (.t 45))]
def c40_15 : OL := [
 oV 2 (.mov (.k (.bool true)))]
def disk_Right_c (F : Nat → Nat) : ACode :=
 (.seq
 (.reg c40_0 (some ([1],[1])))
 (.seq
 (.seq
 (.reg c40_1 (some ([1,22],[1])))
 (.cond (.t 22)
 (.seq
 (.reg c40_2 (some ([2],[])))
 .ret)
 .skip))
 (.seq
 (.seq
 (.reg c40_3 (some ([1,24,25,26],[1])))
 (.block 0
 (.loop
 (.seq
 (.reg c40_4 (some ([1,24,25,26,27],[1])))
 (.seq
 (.cond (.t 27)
 .skip
 (.exit 0))
 (.seq
 (.block 1
 (.seq
 (.reg c40_5 (some ([1,4,24,25,26],[1])))
 (.seq
 (.reg c40_6 (some ([1,24,25,26,32],[1])))
 (.cond (.t 32)
 (.seq
 (.reg c40_7 (some ([2],[])))
 .ret)
 .skip))))
 (.reg c40_8 (some ([1,24,25,26],[1])))))))))
 (.seq
 (.seq
 (.reg c40_9 (some ([1,35,36,37],[1])))
 (.block 2
 (.loop
 (.seq
 (.reg c40_10 (some ([1,35,36,37,38],[1])))
 (.seq
 (.cond (.t 38)
 .skip
 (.exit 2))
 (.seq
 (.block 3
 (.seq
 (.reg c40_11 (some ([1,6,35,36,37],[1,6])))
 (.seq
 (.reg (c40_12 F) (some ([1,35,36,37,44],[1])))
 (.cond (.t 44)
 (.seq
 (.reg c40_13 (some ([2],[])))
 .ret)
 .skip))))
 (.reg c40_14 (some ([1,35,36,37],[1])))))))))
 (.seq
 (.reg c40_15 (some ([2],[])))
 .ret)))))
def disk_Right_k (P : Program) (F : Nat → Nat) : Prop := chkFn P (F 40) 1 (disk_Right_c F) [2] = true
def c41_0 : OL := [
 ⟨some 1,.box 2 (.t 0),none⟩,
 ⟨some 2,.alloc 2 [.nil 1,.nil 2],none⟩]
def c41_1 (F : Nat → Nat) : OL := [
 oV 3 (.loadA 2 (.t 1)),
 ⟨some 4,.call (F 40) [(.t 3)],none⟩,
 oV 5 (.not (.t 4))]
def c41_2 : OL := [
 oV 6 (.loadA 2 (.t 1)),
 ⟨none,.stA true 2 (.t 2) (.t 6),none⟩]
def c41_3 (F : Nat → Nat) : OL := [
 oV 7 (.loadA 2 (.t 1)),
 oV 8 (.field 1 (.t 1)),
 oV 9 (.load1 (.t 8)),
 ⟨some 10,.call (F 50) [(.t 7),(.t 9)],none⟩,
 ⟨none,.stA true 2 (.t 2) (.t 10),none⟩]
def disk_Sync_c (F : Nat → Nat) : ACode :=
 (.seq
 (.reg c41_0 (some ([1,2],[1,2])))
 (.seq
 (.seq
 (.reg (c41_1 F) (some ([1,2,5],[1,2])))
 (.cond (.t 5)
 (.seq
 (.reg c41_2 (some ([2],[2])))
 .ret)
 .skip))
 (.seq
 (.reg (c41_3 F) (some ([2],[2])))
 .ret)))
def disk_Sync_k (P : Program) (F : Nat → Nat) : Prop := chkFn P (F 41) 1 (disk_Sync_c F) [.loadA 2 (.t 2)] = true
def c42_0 : OL := [
 ⟨some 1,.box 2 (.t 0),none⟩,
 ⟨some 2,.alloc 2 [.nil 1,.nil 2],none⟩]
def c42_1 : OL := [
 ⟨some 3,.alloc 2 [.nil 1,.nil 2],none⟩]
def c42_2 : OL := [
 oV 4 (.mov (.k (.int .i64 0)))]
def c42_3 : OL := [
 oV 5 (.mov (.t 4)),
 oV 6 (.field 0 (.t 1)),
 oV 7 (.load1 (.t 6)),
 oV 8 (.lenS (.t 7)),
 oV 9 (.bin .lss false (.t 5) (.t 8))]
def c42_5 (F : Nat → Nat) : OL := [
 oV 12 (.field 0 (.t 3)),
 oV 13 (.load1 (.t 12)),
 oV 14 (.loadA 2 (.t 1)),
 oV 15 (.mov (.t 4)),
 ⟨some 16,.call (F 44) [(.t 14),(.t 15)],none⟩,
 ⟨some 17,.buildS 1 1 [.str []] [(0,(.t 16))],none⟩,
 ⟨some 18,.app 1 16 (.t 13) (.t 17),none⟩,
 oV 19 (.field 0 (.t 3)),
 ⟨none,.st1 true (.t 19) (.t 18),none⟩]
def c42_4 : OL := [
 oV 10 (.mov (.t 4)),
 oV 11 (.bin .add true (.t 10) (.k (.int .i64 1))),
 oV 4 (.mov (.t 11))]
def c42_6 : OL := [
 oV 20 (.loadA 2 (.t 3)),
 ⟨none,.stA true 2 (.t 2) (.t 20),none⟩]
def ref03_Sync_c (F : Nat → Nat) : ACode :=
 (.seq
 (.reg c42_0 (some ([1,2],[1,2,17,18])))
 (.seq
 (.reg c42_1 (some ([1,2,3],[1,2,3,17,18])))
 (.seq
 (.seq
 (.reg c42_2 (some ([1,2,3,4],[1,2,3,17,18])))
 (.block 0
 (.loop
 (.seq
 (.seq
 (.reg c42_3 (some ([1,2,3,4,9],[1,2,3,17,18])))
 (.cond (.t 9)
 .skip
 (.exit 0)))
 (.seq
 (.block 1
 (.regD (c42_5 F) [(0,4),(1,4),(0,5),(1,5)] (some ([1,2,3,4],[1,2,3,17,18]))))
 (.reg c42_4 (some ([1,2,3,4],[1,2,3,17,18]))))))))
 (.seq
 (.reg c42_6 (some ([2],[2,17,18])))
 .ret))))
def ref03_Sync_k (P : Program) (F : Nat → Nat) : Prop := chkFn P (F 42) 1 (ref03_Sync_c F) [.loadA 2 (.t 2)] = true
def c43_0 : OL := [
 ⟨some 2,.box 2 (.t 0),none⟩,
 ⟨some 4,.alloc 2 [.nil 1,.nil 2],none⟩]
def c43_1 : OL := [
 ⟨some 5,.alloc 2 [.nil 1,.nil 2],none⟩]
def c43_2 : OL := [
 oV 6 (.mov (.k (.int .i64 0)))]
def c43_3 : OL := [
 oV 9 (.mov (.t 6)),
 oV 10 (.field 0 (.t 2)),
 oV 11 (.load1 (.t 10)),
 oV 12 (.lenS (.t 11)),
 oV 13 (.bin .lss false (.t 9) (.t 12))]
def c43_5 : OL := [
 oV 16 (.field 0 (.t 2)),
 oV 17 (.load1 (.t 16)),
 oV 18 (.mov (.t 6)),
 oV 19 (.ixS 1 (.t 17) (.t 18)),
 oV 20 (.load1 (.t 19)),
 oV 7 (.mov (.t 20))]
def c43_6 : OL := [
 oV 8 (.mov (.k (.int .i64 0)))]
def c43_7 : OL := [
 oV 21 (.mov (.t 8)),
 oV 22 (.field 1 (.t 2)),
 oV 23 (.load1 (.t 22)),
 oV 24 (.lenS (.t 23)),
 oV 25 (.bin .lss false (.t 21) (.t 24))]
def c43_9 (F : Nat → Nat) : OL := [
 oV 28 (.field 1 (.t 2)),
 oV 29 (.load1 (.t 28)),
 oV 30 (.mov (.t 8)),
 oV 31 (.ixS 2 (.t 29) (.t 30)),
 oV 32 (.field 0 (.t 31)),
 oV 33 (.load1 (.t 32)),
 oV 34 (.mov (.t 6)),
 oV 35 (.bin .eql false (.t 33) (.t 34)),
 oV 36 (.mov (.t 35)),
 oG 37 (.mov (.t 1)) 36 true,
 oG 38 (.mov (.t 8)) 36 true,
 ⟨some 39,.call (F 54) [(.t 37),(.t 38)],some (36,true)⟩,
 oV 40 (.pand (.t 36) (.t 39))]
def c43_10 : OL := [
 oV 41 (.field 1 (.t 2)),
 oV 42 (.load1 (.t 41)),
 oV 43 (.mov (.t 8)),
 oV 44 (.ixS 2 (.t 42) (.t 43)),
 oV 45 (.field 1 (.t 44)),
 oV 46 (.load1 (.t 45)),
 oV 7 (.mov (.t 46))]
def c43_8 : OL := [
 oV 26 (.mov (.t 8)),
 oV 27 (.bin .add true (.t 26) (.k (.int .i64 1))),
 oV 8 (.mov (.t 27))]
def c43_11 : OL := [
 oV 47 (.field 0 (.t 5)),
 oV 48 (.load1 (.t 47)),
 oV 49 (.mov (.t 7)),
 ⟨some 50,.buildS 1 1 [.str []] [(0,(.t 49))],none⟩,
 ⟨some 51,.app 1 16 (.t 48) (.t 50),none⟩,
 oV 52 (.field 0 (.t 5)),
 ⟨none,.st1 true (.t 52) (.t 51),none⟩]
def c43_4 : OL := [
 oV 14 (.mov (.t 6)),
 oV 15 (.bin .add true (.t 14) (.k (.int .i64 1))),
 oV 6 (.mov (.t 15))]
def c43_12 : OL := [
 oV 53 (.loadA 2 (.t 5)),
 ⟨none,.stA true 2 (.t 4) (.t 53),none⟩]
def ref03_Crash_c (F : Nat → Nat) : ACode :=
 (.seq
 (.reg c43_0 (some ([1,2,4],[2,4,50,51])))
 (.seq
 (.reg c43_1 (some ([1,2,4,5],[2,4,5,50,51])))
 (.seq
 (.seq
 (.reg c43_2 (some ([1,2,4,5,6],[2,4,5,50,51])))
 (.block 0
 (.loop
 (.seq
 (.seq
 (.reg c43_3 (some ([1,2,4,5,6,13],[2,4,5,50,51])))
 (.cond (.t 13)
 .skip
 (.exit 0)))
 (.seq
 (.block 1
 (.seq
 (.reg c43_5 (some ([1,2,4,5,6,7],[2,4,5,50,51])))
 (.seq
 (.seq
 (.reg c43_6 (some ([1,2,4,5,6,7,8],[2,4,5,50,51])))
 (.block 2
 (.loop
 (.seq
 (.seq
 (.reg c43_7 (some ([1,2,4,5,6,7,8,25],[2,4,5,50,51])))
 (.cond (.t 25)
 .skip
 (.exit 2)))
 (.seq
 (.block 3
 (.seq
 (.reg (c43_9 F) (some ([1,2,4,5,6,7,8,40],[2,4,5,50,51])))
 (.cond (.t 40)
 (.reg c43_10 (some ([1,2,4,5,6,7,8],[2,4,5,50,51])))
 .skip)))
 (.reg c43_8 (some ([1,2,4,5,6,7,8],[2,4,5,50,51]))))))))
 (.reg c43_11 (some ([1,2,4,5,6],[2,4,5,50,51]))))))
 (.reg c43_4 (some ([1,2,4,5,6],[2,4,5,50,51]))))))))
 (.seq
 (.reg c43_12 (some ([4],[4,50,51])))
 .ret))))
def ref03_Crash_k (P : Program) (F : Nat → Nat) : Prop := chkFn P (F 43) 2 (ref03_Crash_c F) [.loadA 2 (.t 4)] = true
def c44_0 : OL := [
 ⟨some 2,.box 2 (.t 0),none⟩,
 oV 4 (.mov (.k (.str [])))]
def c44_1 : OL := [
 oV 6 (.field 1 (.t 2)),
 oV 7 (.load1 (.t 6)),
 oV 8 (.lenS (.t 7)),
 oV 9 (.bin .sub true (.t 8) (.k (.int .i64 1))),
 oV 5 (.mov (.t 9))]
def c44_2 : OL := [
 oV 10 (.mov (.t 5)),
 oV 11 (.bin .geq false (.t 10) (.k (.int .i64 0)))]
def c44_4 : OL := [
 oV 14 (.field 1 (.t 2)),
 oV 15 (.load1 (.t 14)),
 oV 16 (.mov (.t 5)),
 oV 17 (.ixS 2 (.t 15) (.t 16)),
 oV 18 (.field 0 (.t 17)),
 oV 19 (.load1 (.t 18)),
 oV 20 (.mov (.t 1)),
 oV 21 (.bin .eql false (.t 19) (.t 20))]
def c44_5 : OL := [
 oV 22 (.field 1 (.t 2)),
 oV 23 (.load1 (.t 22)),
 oV 24 (.mov (.t 5)),
 oV 25 (.ixS 2 (.t 23) (.t 24)),
 oV 26 (.field 1 (.t 25)),
 oV 27 (.load1 (.t 26)),
 oV 4 (.mov (.t 27))]
def c44_3 : OL := [
 oV 12 (.mov (.t 5)),
 oV 13 (.bin .sub true (.t 12) (.k (.int .i64 1))),
 oV 5 (.mov (.t 13))]
def c44_6 : OL := [
 oV 28 (.field 0 (.t 2)),
 oV 29 (.load1 (.t 28)),
 oV 30 (.mov (.t 1)),
 oV 31 (.ixS 1 (.t 29) (.t 30)),
 oV 32 (.load1 (.t 31)),
 oV 4 (.mov (.t 32))]
def ref03_Read_c : ACode :=
 (.seq
 (.reg c44_0 (some ([1,2],[2])))
 (.seq
 (.seq
 (.reg c44_1 (some ([1,2,5],[2])))
 (.block 0
 (.loop
 (.seq
 (.seq
 (.reg c44_2 (some ([1,2,5,11],[2])))
 (.cond (.t 11)
 .skip
 (.exit 0)))
 (.seq
 (.block 1
 (.seq
 (.reg c44_4 (some ([1,2,5,21],[2])))
 (.cond (.t 21)
 (.seq
 (.reg c44_5 (some ([4],[])))
 .ret)
 .skip)))
 (.reg c44_3 (some ([1,2,5],[2]))))))))
 (.seq
 (.reg c44_6 (some ([4],[])))
 .ret)))
def ref03_Read_k (P : Program) (F : Nat → Nat) : Prop := chkFn P (F 44) 2 (ref03_Read_c) [4] = true
def c50_0 : OL := [
 ⟨some 2,.box 2 (.t 0),none⟩,
 ⟨some 4,.alloc 2 [.nil 1,.nil 2],none⟩]
def c50_1 (F : Nat → Nat) : OL := [
 oV 8 (.field 0 (.t 2)),
 oV 9 (.load1 (.t 8)),
 ⟨some 10,.call (F 55) [(.t 9)],none⟩,
 oV 5 (.mov (.t 10))]
def c50_2 : OL := [
 oV 11 (.mov (.t 1)),
 oV 12 (.lenS (.t 11)),
 oV 13 (.mov (.k (.int .i64 0)))]
def c50_3 : OL := [
 oV 14 (.bin .lss false (.t 13) (.t 12))]
def c50_4 : OL := [
 oV 15 (.ixS 2 (.t 11) (.t 13)),
 oV 16 (.loadA 2 (.t 15)),
 ⟨some 7,.alloc 2 [.int .i64 0,.str []],none⟩,
 ⟨none,.stA true 2 (.t 7) (.t 16),none⟩]
def c50_5 : OL := [
 oV 17 (.mov (.t 5)),
 oV 18 (.field 0 (.t 7)),
 oV 19 (.load1 (.t 18)),
 oV 20 (.field 1 (.t 7)),
 oV 21 (.load1 (.t 20)),
 oV 22 (.ixS 1 (.t 17) (.t 19)),
 ⟨none,.st1 false (.t 22) (.t 21),none⟩]
def c50_6 : OL := [
 oV 23 (.bin .add true (.t 13) (.k (.int .i64 1))),
 oV 13 (.mov (.t 23))]
def c50_7 : OL := [
 oV 24 (.mov (.t 5)),
 oV 25 (.build 2 [.nil 1,.nil 2] [(0,1,(.t 24))]),
 ⟨none,.stA true 2 (.t 4) (.t 25),none⟩]
def disk_written_c (F : Nat → Nat) : ACode :=
 (.seq
 (.reg c50_0 (some ([1,2,4],[2,4,1010])))
 (.seq
 (.reg (c50_1 F) (some ([1,4,5],[4,1010])))
 (.seq
 (.seq
 (.reg c50_2 (some ([4,5,11,12,13],[4,1010])))
 (.block 0
 (.loop
 (.seq
 (.reg c50_3 (some ([4,5,11,12,13,14],[4,1010])))
 (.seq
 (.cond (.t 14)
 .skip
 (.exit 0))
 (.seq
 (.block 1
 (.seq
 (.reg c50_4 (some ([4,5,7,11,12,13],[4,7,1010])))
 (.reg c50_5 (some ([4,5,11,12,13],[4,1010])))))
 (.reg c50_6 (some ([4,5,11,12,13],[4,1010])))))))))
 (.seq
 (.reg c50_7 (some ([4],[4,1010])))
 .ret))))
def disk_written_k (P : Program) (F : Nat → Nat) : Prop := chkFn P (F 50) 2 (disk_written_c F) [.loadA 2 (.t 4)] = true
def c51_0 : OL := [
 ⟨some 2,.box 2 (.t 0),none⟩,
 ⟨some 3,.box 2 (.t 1),none⟩,
 oV 4 (.mov (.k (.bool false)))]
def c51_1 : OL := [
 oV 5 (.field 0 (.t 3)),
 oV 6 (.load1 (.t 5)),
 oV 7 (.bin .geq false (.t 6) (.k (.int .i64 0))),
 oV 8 (.mov (.t 7)),
 oG 9 (.field 0 (.t 3)) 8 true,
 oG 10 (.load1 (.t 9)) 8 true,
 oG 11 (.field 0 (.t 2)) 8 true,
 oG 12 (.load1 (.t 11)) 8 true,
 oG 13 (.lenS (.t 12)) 8 true,
 oG 14 (.bin .lss false (.t 10) (.t 13)) 8 true,
 oV 15 (.pand (.t 8) (.t 14)),
 oV 16 (.mov (.t 15)),
 oG 17 (.field 1 (.t 3)) 16 true,
 oG 18 (.load1 (.t 17)) 16 true,
 oG 19 (.lenT (.t 18)) 16 true,
 oG 20 (.bin .eql false (.t 19) (.k (.int .i64 16))) 16 true,
 oV 21 (.pand (.t 16) (.t 20)),
 oV 4 (.mov (.t 21))]
def disk_fits_c : ACode :=
 (.seq
 (.reg c51_0 (some ([2,3],[2,3])))
 (.seq
 (.reg c51_1 (some ([4],[])))
 .ret))
def disk_fits_k (P : Program) (F : Nat → Nat) : Prop := chkFn P (F 51) 2 (disk_fits_c) [4] = true
def c52_0 : OL := [
 oV 2 (.mov (.k (.nil 2)))]
def c52_1 : OL := [
 oV 3 (.mov (.t 0)),
 oV 4 (.nilS (.t 3))]
def c52_2 : OL := [
 oV 2 (.mov (.k (.nil 2)))]
def c52_3 : OL := [
 ⟨some 5,.buildS 2 0 [.int .i64 0,.str []] [],none⟩,
 oV 6 (.mov (.t 0)),
 ⟨some 7,.app 2 24 (.t 5) (.t 6),none⟩,
 oV 2 (.mov (.t 7))]
def sl_Clone_api_Write_c : ACode :=
 (.seq
 (.reg c52_0 (some ([0],[5,7])))
 (.seq
 (.seq
 (.reg c52_1 (some ([0,4],[5,7])))
 (.cond (.t 4)
 (.seq
 (.reg c52_2 (some ([2],[5,7])))
 .ret)
 .skip))
 (.seq
 (.reg c52_3 (some ([2],[5,7])))
 .ret)))
def sl_Clone_api_Write_k (P : Program) (F : Nat → Nat) : Prop := chkFn P (F 52) 1 (sl_Clone_api_Write_c) [2] = true
def c54_0 : OL := [
 oV 4 (.mov (.k (.bool false)))]
def c54_1 : OL := [
 oV 5 (.mov (.k (.int .i64 0)))]
def c54_2 : OL := [
 oV 6 (.mov (.t 5)),
 oV 7 (.mov (.t 0)),
 oV 8 (.lenS (.t 7)),
 oV 9 (.bin .lss false (.t 6) (.t 8))]
def c54_4 : OL := [
 oV 12 (.mov (.t 0)),
 oV 13 (.mov (.t 5)),
 oV 14 (.ixS 1 (.t 12) (.t 13)),
 oV 15 (.load1 (.t 14)),
 oV 16 (.mov (.t 1)),
 oV 17 (.bin .eql false (.t 15) (.t 16))]
def c54_5 : OL := [
 oV 4 (.mov (.k (.bool true)))]
def c54_3 : OL := [
 oV 10 (.mov (.t 5)),
 oV 11 (.bin .add true (.t 10) (.k (.int .i64 1))),
 oV 5 (.mov (.t 11))]
def c54_6 : OL := [
 oV 4 (.mov (.k (.bool false)))]
def ref03_in_c : ACode :=
 (.seq
 (.reg c54_0 (some ([0,1],[])))
 (.seq
 (.seq
 (.reg c54_1 (some ([0,1,5],[])))
 (.block 0
 (.loop
 (.seq
 (.seq
 (.reg c54_2 (some ([0,1,5,9],[])))
 (.cond (.t 9)
 .skip
 (.exit 0)))
 (.seq
 (.block 1
 (.seq
 (.reg c54_4 (some ([0,1,5,17],[])))
 (.cond (.t 17)
 (.seq
 (.reg c54_5 (some ([4],[])))
 .ret)
 .skip)))
 (.reg c54_3 (some ([0,1,5],[]))))))))
 (.seq
 (.reg c54_6 (some ([4],[])))
 .ret)))
def ref03_in_k (P : Program) (F : Nat → Nat) : Prop := chkFn P (F 54) 2 (ref03_in_c) [4] = true
def c55_0 : OL := [
 oV 2 (.mov (.k (.nil 1)))]
def c55_1 : OL := [
 oV 3 (.mov (.t 0)),
 oV 4 (.nilS (.t 3))]
def c55_2 : OL := [
 oV 2 (.mov (.k (.nil 1)))]
def c55_3 : OL := [
 ⟨some 5,.buildS 1 0 [.str []] [],none⟩,
 oV 6 (.mov (.t 0)),
 ⟨some 7,.app 1 16 (.t 5) (.t 6),none⟩,
 oV 2 (.mov (.t 7))]
def sl_Clone_string_c : ACode :=
 (.seq
 (.reg c55_0 (some ([0],[5,7])))
 (.seq
 (.seq
 (.reg c55_1 (some ([0,4],[5,7])))
 (.cond (.t 4)
 (.seq
 (.reg c55_2 (some ([2],[5,7])))
 .ret)
 .skip))
 (.seq
 (.reg c55_3 (some ([2],[5,7])))
 .ret)))
def sl_Clone_string_k (P : Program) (F : Nat → Nat) : Prop := chkFn P (F 55) 1 (sl_Clone_string_c) [2] = true
end Lk.C
namespace Lk.C
open Go Lk
def c81_0 : OL := [
 oV 0 (.mov (.k (.bool false)))]
def c81_1 (F : Nat → Nat) : OL := [
 ⟨some 16,.buildS 1 2 [.int .i64 0] [(0,(.k (.int .i64 1))),(1,(.k (.int .i64 2)))],none⟩,
 ⟨some 17,.call (F 75) [(.t 16)],none⟩,
 oV 15 (.mov (.t 17)),
 oV 18 (.extr 0 (.t 15)),
 oV 19 (.extr 1 (.t 15)),
 ⟨some 1,.alloc 3 [.nil 3,.int .i64 0,.bool false],none⟩,
 ⟨none,.stA true 3 (.t 1) (.t 18),none⟩,
 oV 2 (.mov (.t 19))]
def c81_2 (F : Nat → Nat) : OL := [
 oV 21 (.loadA 3 (.t 1)),
 ⟨some 22,.call (F 79) [(.t 21),(.k (.int .i64 0)),(.k (.int .i64 4))],none⟩,
 oV 20 (.mov (.t 22)),
 oV 23 (.extr 0 (.t 20)),
 oV 24 (.extr 1 (.t 20)),
 ⟨none,.stA true 3 (.t 1) (.t 23),none⟩,
 oV 3 (.mov (.t 24))]
def c81_3 (F : Nat → Nat) : OL := [
 oV 26 (.loadA 3 (.t 1)),
 ⟨some 27,.call (F 79) [(.t 26),(.k (.int .i64 1)),(.k (.int .i64 8))],none⟩,
 oV 25 (.mov (.t 27)),
 oV 28 (.extr 0 (.t 25)),
 oV 29 (.extr 1 (.t 25)),
 ⟨none,.stA true 3 (.t 1) (.t 28),none⟩,
 oV 4 (.mov (.t 29))]
def c81_4 (F : Nat → Nat) : OL := [
 oV 31 (.loadA 3 (.t 1)),
 ⟨some 32,.call (F 86) [(.t 31)],none⟩,
 oV 30 (.mov (.t 32)),
 oV 33 (.extr 0 (.t 30)),
 oV 34 (.extr 1 (.t 30)),
 oV 35 (.extr 2 (.t 30)),
 oV 36 (.extr 3 (.t 30)),
 ⟨none,.stA true 3 (.t 1) (.t 33),none⟩,
 oV 5 (.mov (.t 34)),
 oV 6 (.mov (.t 35)),
 oV 7 (.mov (.t 36))]
def c81_5 (F : Nat → Nat) : OL := [
 oV 38 (.loadA 3 (.t 1)),
 ⟨some 39,.call (F 86) [(.t 38)],none⟩,
 oV 37 (.mov (.t 39)),
 oV 40 (.extr 0 (.t 37)),
 oV 41 (.extr 1 (.t 37)),
 oV 42 (.extr 2 (.t 37)),
 oV 43 (.extr 3 (.t 37)),
 ⟨none,.stA true 3 (.t 1) (.t 40),none⟩,
 oV 8 (.mov (.t 41)),
 oV 9 (.mov (.t 42)),
 oV 10 (.mov (.t 43))]
def c81_6 (F : Nat → Nat) : OL := [
 oV 45 (.loadA 3 (.t 1)),
 ⟨some 46,.call (F 86) [(.t 45)],none⟩,
 oV 44 (.mov (.t 46)),
 oV 47 (.extr 0 (.t 44)),
 oV 48 (.extr 1 (.t 44)),
 oV 49 (.extr 2 (.t 44)),
 oV 50 (.extr 3 (.t 44)),
 ⟨some 11,.alloc 3 [.nil 3,.int .i64 0,.bool false],none⟩,
 ⟨none,.stA true 3 (.t 11) (.t 47),none⟩,
 oV 12 (.mov (.t 48)),
 oV 13 (.mov (.t 49)),
 oV 14 (.mov (.t 50))]
def c81_7 (F : Nat → Nat) : OL := [
 oV 51 (.mov (.t 2)),
 oV 52 (.bin .eql false (.t 51) (.k (.int .i64 0))),
 oV 53 (.mov (.t 52)),
 oG 54 (.mov (.t 3)) 53 true,
 oG 55 (.bin .eql false (.t 54) (.k (.int .i64 0))) 53 true,
 oV 56 (.pand (.t 53) (.t 55)),
 oV 57 (.mov (.t 56)),
 oG 58 (.mov (.t 4)) 57 true,
 oG 59 (.bin .eql false (.t 58) (.k (.int .i64 0))) 57 true,
 oV 60 (.pand (.t 57) (.t 59)),
 oV 61 (.mov (.t 60)),
 oG 62 (.mov (.t 5)) 61 true,
 oG 63 (.bin .eql false (.t 62) (.k (.int .i64 0))) 61 true,
 oV 64 (.pand (.t 61) (.t 63)),
 oV 65 (.mov (.t 64)),
 oG 66 (.mov (.t 6)) 65 true,
 oG 67 (.bin .eql false (.t 66) (.k (.int .i64 4))) 65 true,
 oV 68 (.pand (.t 65) (.t 67)),
 oV 69 (.mov (.t 68)),
 oG 70 (.mov (.t 7)) 69 true,
 oV 71 (.pand (.t 69) (.t 70)),
 oV 72 (.mov (.t 71)),
 oG 73 (.mov (.t 8)) 72 true,
 oG 74 (.bin .eql false (.t 73) (.k (.int .i64 1))) 72 true,
 oV 75 (.pand (.t 72) (.t 74)),
 oV 76 (.mov (.t 75)),
 oG 77 (.mov (.t 9)) 76 true,
 oG 78 (.bin .eql false (.t 77) (.k (.int .i64 8))) 76 true,
 oV 79 (.pand (.t 76) (.t 78)),
 oV 80 (.mov (.t 79)),
 oG 81 (.mov (.t 10)) 80 true,
 oV 82 (.pand (.t 80) (.t 81)),
 oV 83 (.mov (.t 82)),
 oG 84 (.mov (.t 14)) 83 true,
 oG 85 (.not (.t 84)) 83 true,
 oV 86 (.pand (.t 83) (.t 85)),
 oV 87 (.mov (.t 86)),
 oV 88 (.por (.t 87) (.k (.bool false))),
 oV 89 (.mov (.t 88)),
 oG 90 (.loadA 3 (.t 1)) 89 true,
 ⟨some 91,.call (F 76) [(.t 90)],some (89,true)⟩,
 oV 92 (.pand (.t 89) (.t 91)),
 oV 0 (.mov (.t 92))]
def law05_awake_c (F : Nat → Nat) : ACode :=
 (.seq
 (.reg c81_0 (some ([],[16])))
 (.seq
 (.reg (c81_1 F) (some ([1,2],[1,16])))
 (.seq
 (.reg (c81_2 F) (some ([1,2,3],[1,16])))
 (.seq
 (.reg (c81_3 F) (some ([1,2,3,4],[1,16])))
 (.seq
 (.reg (c81_4 F) (some ([1,2,3,4,5,6,7],[1,16])))
 (.seq
 (.reg (c81_5 F) (some ([1,2,3,4,5,6,7,8,9,10],[1,16])))
 (.seq
 (.reg (c81_6 F) (some ([1,2,3,4,5,6,7,8,9,10,14],[1,16])))
 (.seq
 (.reg (c81_7 F) (some ([0],[16])))
 .ret))))))))
def law05_awake_k (P : Program) (F : Nat → Nat) : Prop := chkFn P (F 81) 0 (law05_awake_c F) [0] = true
def c75_0 : OL := [
 ⟨some 2,.alloc 3 [.nil 3,.int .i64 0,.bool false],none⟩,
 oV 3 (.mov (.k (.int .i64 0)))]
def c75_1 : OL := [
 oV 7 (.mov (.t 0)),
 oV 8 (.lenS (.t 7)),
 oV 9 (.bin .lss false (.t 8) (.k (.int .i64 1))),
 oV 10 (.mov (.t 9)),
 oG 11 (.mov (.t 0)) 10 false,
 oG 12 (.lenS (.t 11)) 10 false,
 oG 13 (.bin .gtr false (.t 12) (.k (.int .i64 6))) 10 false,
 oV 14 (.por (.t 10) (.t 13))]
def c75_2 : OL := [
 oV 15 (.build 3 [.nil 3,.int .i64 0,.bool false] []),
 ⟨none,.stA true 3 (.t 2) (.t 15),none⟩,
 oV 3 (.mov (.k (.int .i64 1)))]
def c75_3 : OL := [
 oV 16 (.mov (.t 0)),
 oV 17 (.lenS (.t 16)),
 ⟨some 18,.mk 3 40 [.int .i64 0,.int .i64 0,.nil 1] (.t 17),none⟩,
 oV 4 (.mov (.t 18))]
def c75_4 : OL := [
 oV 19 (.mov (.t 0)),
 oV 20 (.lenS (.t 19)),
 oV 21 (.mov (.k (.int .i64 0)))]
def c75_5 : OL := [
 oV 22 (.bin .lss false (.t 21) (.t 20))]
def c75_6 : OL := [
 oV 23 (.mov (.t 21)),
 oV 24 (.ixS 1 (.t 19) (.t 21)),
 oV 25 (.load1 (.t 24)),
 oV 5 (.mov (.t 23)),
 oV 6 (.mov (.t 25))]
def c75_7 : OL := [
 oV 26 (.mov (.t 6)),
 oV 27 (.bin .lss false (.t 26) (.k (.int .i64 1))),
 oV 28 (.mov (.t 27)),
 oG 29 (.mov (.t 6)) 28 false,
 oG 30 (.bin .gtr false (.t 29) (.k (.int .i64 8))) 28 false,
 oV 31 (.por (.t 28) (.t 30))]
def c75_8 : OL := [
 oV 32 (.build 3 [.nil 3,.int .i64 0,.bool false] []),
 ⟨none,.stA true 3 (.t 2) (.t 32),none⟩,
 oV 3 (.mov (.k (.int .i64 1)))]
def c75_9 : OL := [
 oV 33 (.mov (.t 4)),
 oV 34 (.mov (.t 5)),
 oV 35 (.mov (.t 6)),
 oV 36 (.ixS 3 (.t 33) (.t 34)),
 oV 37 (.field 0 (.t 36)),
 ⟨none,.st1 false (.t 37) (.t 35),none⟩]
def c75_10 : OL := [
 oV 38 (.bin .add true (.t 21) (.k (.int .i64 1))),
 oV 21 (.mov (.t 38))]
def c75_11 : OL := [
 oV 39 (.mov (.t 4)),
 oV 40 (.build 3 [.nil 3,.int .i64 0,.bool false] [(0,1,(.t 39))]),
 ⟨none,.stA true 3 (.t 2) (.t 40),none⟩,
 oV 3 (.mov (.k (.int .i64 0)))]
def lanes_New_c : ACode :=
 (.seq
 (.reg c75_0 (some ([0,2],[2,18])))
 (.seq
 (.seq
 (.reg c75_1 (some ([0,2,14],[2,18])))
 (.cond (.t 14)
 (.seq
 (.reg c75_2 (some ([2,3],[2,18])))
 .ret)
 .skip))
 (.seq
 (.reg c75_3 (some ([0,2,4],[2,18])))
 (.seq
 (.seq
 (.reg c75_4 (some ([2,4,19,20,21],[2,18])))
 (.block 0
 (.loop
 (.seq
 (.reg c75_5 (some ([2,4,19,20,21,22],[2,18])))
 (.seq
 (.cond (.t 22)
 .skip
 (.exit 0))
 (.seq
 (.block 1
 (.seq
 (.reg c75_6 (some ([2,4,5,6,19,20,21],[2,18])))
 (.seq
 (.seq
 (.reg c75_7 (some ([2,4,5,6,19,20,21,31],[2,18])))
 (.cond (.t 31)
 (.seq
 (.reg c75_8 (some ([2,3],[2,18])))
 .ret)
 .skip))
 (.reg c75_9 (some ([2,4,19,20,21],[2,18]))))))
 (.reg c75_10 (some ([2,4,19,20,21],[2,18])))))))))
 (.seq
 (.reg c75_11 (some ([2,3],[2,18])))
 .ret)))))
def lanes_New_k (P : Program) (F : Nat → Nat) : Prop := chkFn P (F 75) 1 (lanes_New_c) [.loadA 3 (.t 2),3] = true
def c82_0 : OL := [
 ⟨some 1,.box 3 (.t 0),none⟩,
 oV 2 (.mov (.k (.bool false)))]
def c82_1 : OL := [
 oV 7 (.field 0 (.t 1)),
 oV 8 (.load1 (.t 7)),
 oV 9 (.lenS (.t 8)),
 oV 10 (.bin .lss false (.t 9) (.k (.int .i64 1))),
 oV 11 (.mov (.t 10)),
 oG 12 (.field 0 (.t 1)) 11 false,
 oG 13 (.load1 (.t 12)) 11 false,
 oG 14 (.lenS (.t 13)) 11 false,
 oG 15 (.bin .gtr false (.t 14) (.k (.int .i64 6))) 11 false,
 oV 16 (.por (.t 11) (.t 15)),
 oV 17 (.mov (.t 16)),
 oG 18 (.field 1 (.t 1)) 17 false,
 oG 19 (.load1 (.t 18)) 17 false,
 oG 20 (.bin .lss false (.t 19) (.k (.int .i64 0))) 17 false,
 oV 21 (.por (.t 17) (.t 20)),
 oV 22 (.mov (.t 21)),
 oG 23 (.field 1 (.t 1)) 22 false,
 oG 24 (.load1 (.t 23)) 22 false,
 oG 25 (.field 0 (.t 1)) 22 false,
 oG 26 (.load1 (.t 25)) 22 false,
 oG 27 (.lenS (.t 26)) 22 false,
 oG 28 (.bin .geq false (.t 24) (.t 27)) 22 false,
 oV 29 (.por (.t 22) (.t 28))]
def c82_2 : OL := [
 oV 2 (.mov (.k (.bool false)))]
def c82_3 : OL := [
 oV 3 (.mov (.k (.int .i64 0)))]
def c82_4 : OL := [
 oV 30 (.mov (.t 3)),
 oV 31 (.field 0 (.t 1)),
 oV 32 (.load1 (.t 31)),
 oV 33 (.lenS (.t 32)),
 oV 34 (.bin .lss false (.t 30) (.t 33))]
def c82_6 : OL := [
 oV 37 (.field 0 (.t 1)),
 oV 38 (.load1 (.t 37)),
 oV 39 (.mov (.t 3)),
 oV 40 (.ixS 3 (.t 38) (.t 39)),
 oV 41 (.loadA 3 (.t 40)),
 ⟨some 4,.alloc 3 [.int .i64 0,.int .i64 0,.nil 1],none⟩,
 ⟨none,.stA true 3 (.t 4) (.t 41),none⟩]
def c82_7 : OL := [
 oV 5 (.mov (.k (.int .i64 7)))]
def c82_8 : OL := [
 oV 42 (.field 2 (.t 1)),
 oV 43 (.load1 (.t 42)),
 oV 44 (.mov (.t 43)),
 oG 45 (.field 1 (.t 1)) 44 true,
 oG 46 (.load1 (.t 45)) 44 true,
 oG 47 (.mov (.t 3)) 44 true,
 oG 48 (.bin .eql false (.t 46) (.t 47)) 44 true,
 oV 49 (.pand (.t 44) (.t 48))]
def c82_9 : OL := [
 oV 5 (.mov (.k (.int .i64 39)))]
def c82_10 : OL := [
 oV 50 (.field 0 (.t 4)),
 oV 51 (.load1 (.t 50)),
 oV 52 (.bin .lss false (.t 51) (.k (.int .i64 1))),
 oV 53 (.mov (.t 52)),
 oG 54 (.field 0 (.t 4)) 53 false,
 oG 55 (.load1 (.t 54)) 53 false,
 oG 56 (.bin .gtr false (.t 55) (.k (.int .i64 8))) 53 false,
 oV 57 (.por (.t 53) (.t 56)),
 oV 58 (.mov (.t 57)),
 oG 59 (.field 1 (.t 4)) 58 false,
 oG 60 (.load1 (.t 59)) 58 false,
 oG 61 (.bin .lss false (.t 60) (.k (.int .i64 0))) 58 false,
 oV 62 (.por (.t 58) (.t 61)),
 oV 63 (.mov (.t 62)),
 oG 64 (.field 1 (.t 4)) 63 false,
 oG 65 (.load1 (.t 64)) 63 false,
 oG 66 (.mov (.t 5)) 63 false,
 oG 67 (.bin .gtr false (.t 65) (.t 66)) 63 false,
 oV 68 (.por (.t 63) (.t 67)),
 oV 69 (.mov (.t 68)),
 oG 70 (.field 2 (.t 4)) 69 false,
 oG 71 (.load1 (.t 70)) 69 false,
 oG 72 (.lenS (.t 71)) 69 false,
 oG 73 (.bin .gtr false (.t 72) (.k (.int .i64 200))) 69 false,
 oV 74 (.por (.t 69) (.t 73))]
def c82_11 : OL := [
 oV 2 (.mov (.k (.bool false)))]
def c82_12 : OL := [
 oV 6 (.mov (.k (.int .i64 0)))]
def c82_13 : OL := [
 oV 75 (.mov (.t 6)),
 oV 76 (.field 2 (.t 4)),
 oV 77 (.load1 (.t 76)),
 oV 78 (.lenS (.t 77)),
 oV 79 (.bin .lss false (.t 75) (.t 78))]
def c82_15 : OL := [
 oV 82 (.field 2 (.t 4)),
 oV 83 (.load1 (.t 82)),
 oV 84 (.mov (.t 6)),
 oV 85 (.ixS 1 (.t 83) (.t 84)),
 oV 86 (.load1 (.t 85)),
 oV 87 (.bin .lss false (.t 86) (.k (.int .i64 1))),
 oV 88 (.mov (.t 87)),
 oG 89 (.field 2 (.t 4)) 88 false,
 oG 90 (.load1 (.t 89)) 88 false,
 oG 91 (.mov (.t 6)) 88 false,
 oG 92 (.ixS 1 (.t 90) (.t 91)) 88 false,
 oG 93 (.load1 (.t 92)) 88 false,
 oG 94 (.bin .gtr false (.t 93) (.k (.int .i64 8))) 88 false,
 oV 95 (.por (.t 88) (.t 94))]
def c82_16 : OL := [
 oV 2 (.mov (.k (.bool false)))]
def c82_14 : OL := [
 oV 80 (.mov (.t 6)),
 oV 81 (.bin .add true (.t 80) (.k (.int .i64 1))),
 oV 6 (.mov (.t 81))]
def c82_5 : OL := [
 oV 35 (.mov (.t 3)),
 oV 36 (.bin .add true (.t 35) (.k (.int .i64 1))),
 oV 3 (.mov (.t 36))]
def c82_17 : OL := [
 oV 2 (.mov (.k (.bool true)))]
def ref05_Right_c : ACode :=
 (.seq
 (.reg c82_0 (some ([1],[1])))
 (.seq
 (.seq
 (.reg c82_1 (some ([1,29],[1])))
 (.cond (.t 29)
 (.seq
 (.reg c82_2 (some ([2],[])))
 .ret)
 .skip))
 (.seq
 (.seq
 (.reg c82_3 (some ([1,3],[1])))
 (.block 0
 (.loop
 (.seq
 (.seq
 (.reg c82_4 (some ([1,3,34],[1])))
 (.cond (.t 34)
 .skip
 (.exit 0)))
 (.seq
 (.block 1
 (.seq
 (.reg c82_6 (some ([1,3,4],[1,4])))
 (.seq
 (.reg c82_7 (some ([1,3,4,5],[1,4])))
 (.seq
 (.seq
 (.reg c82_8 (some ([1,3,4,5,49],[1,4])))
 (.cond (.t 49)
 (.reg c82_9 (some ([1,3,4,5],[1,4])))
 .skip))
 (.seq
 (.seq
 (.reg c82_10 (some ([1,3,4,74],[1,4])))
 (.cond (.t 74)
 (.seq
 (.reg c82_11 (some ([2],[])))
 .ret)
 .skip))
 (.seq
 (.reg c82_12 (some ([1,3,4,6],[1,4])))
 (.block 2
 (.loop
 (.seq
 (.seq
 (.reg c82_13 (some ([1,3,4,6,79],[1,4])))
 (.cond (.t 79)
 .skip
 (.exit 2)))
 (.seq
 (.block 3
 (.seq
 (.reg c82_15 (some ([1,3,4,6,95],[1,4])))
 (.cond (.t 95)
 (.seq
 (.reg c82_16 (some ([2],[])))
 .ret)
 .skip)))
 (.reg c82_14 (some ([1,3,4,6],[1,4])))))))))))))
 (.reg c82_5 (some ([1,3],[1]))))))))
 (.seq
 (.reg c82_17 (some ([2],[])))
 .ret))))
def ref05_Right_k (P : Program) (F : Nat → Nat) : Prop := chkFn P (F 82) 1 (ref05_Right_c) [2] = true
def c83_0 : OL := [
 ⟨some 2,.box 3 (.t 0),none⟩,
 ⟨some 3,.box 3 (.t 1),none⟩,
 oV 4 (.mov (.k (.bool false)))]
def c83_1 : OL := [
 oV 9 (.field 0 (.t 2)),
 oV 10 (.load1 (.t 9)),
 oV 11 (.lenS (.t 10)),
 oV 12 (.field 0 (.t 3)),
 oV 13 (.load1 (.t 12)),
 oV 14 (.lenS (.t 13)),
 oV 15 (.bin .neq false (.t 11) (.t 14)),
 oV 16 (.mov (.t 15)),
 oG 17 (.field 1 (.t 2)) 16 false,
 oG 18 (.load1 (.t 17)) 16 false,
 oG 19 (.field 1 (.t 3)) 16 false,
 oG 20 (.load1 (.t 19)) 16 false,
 oG 21 (.bin .neq false (.t 18) (.t 20)) 16 false,
 oV 22 (.por (.t 16) (.t 21)),
 oV 23 (.mov (.t 22)),
 oG 24 (.field 2 (.t 2)) 23 false,
 oG 25 (.load1 (.t 24)) 23 false,
 oG 26 (.field 2 (.t 3)) 23 false,
 oG 27 (.load1 (.t 26)) 23 false,
 oG 28 (.eqB true (.t 25) (.t 27)) 23 false,
 oV 29 (.por (.t 23) (.t 28))]
def c83_2 : OL := [
 oV 4 (.mov (.k (.bool false)))]
def c83_3 : OL := [
 oV 5 (.mov (.k (.int .i64 0)))]
def c83_4 : OL := [
 oV 30 (.mov (.t 5)),
 oV 31 (.field 0 (.t 2)),
 oV 32 (.load1 (.t 31)),
 oV 33 (.lenS (.t 32)),
 oV 34 (.bin .lss false (.t 30) (.t 33))]
def c83_6 : OL := [
 oV 37 (.field 0 (.t 2)),
 oV 38 (.load1 (.t 37)),
 oV 39 (.mov (.t 5)),
 oV 40 (.ixS 3 (.t 38) (.t 39)),
 oV 41 (.loadA 3 (.t 40)),
 oV 42 (.field 0 (.t 3)),
 oV 43 (.load1 (.t 42)),
 oV 44 (.mov (.t 5)),
 oV 45 (.ixS 3 (.t 43) (.t 44)),
 oV 46 (.loadA 3 (.t 45)),
 ⟨some 6,.alloc 3 [.int .i64 0,.int .i64 0,.nil 1],none⟩,
 ⟨some 7,.alloc 3 [.int .i64 0,.int .i64 0,.nil 1],none⟩,
 ⟨none,.stA true 3 (.t 6) (.t 41),none⟩,
 ⟨none,.stA true 3 (.t 7) (.t 46),none⟩]
def c83_7 : OL := [
 oV 47 (.field 0 (.t 6)),
 oV 48 (.load1 (.t 47)),
 oV 49 (.field 0 (.t 7)),
 oV 50 (.load1 (.t 49)),
 oV 51 (.bin .neq false (.t 48) (.t 50)),
 oV 52 (.mov (.t 51)),
 oG 53 (.field 1 (.t 6)) 52 false,
 oG 54 (.load1 (.t 53)) 52 false,
 oG 55 (.field 1 (.t 7)) 52 false,
 oG 56 (.load1 (.t 55)) 52 false,
 oG 57 (.bin .neq false (.t 54) (.t 56)) 52 false,
 oV 58 (.por (.t 52) (.t 57)),
 oV 59 (.mov (.t 58)),
 oG 60 (.field 2 (.t 6)) 59 false,
 oG 61 (.load1 (.t 60)) 59 false,
 oG 62 (.lenS (.t 61)) 59 false,
 oG 63 (.field 2 (.t 7)) 59 false,
 oG 64 (.load1 (.t 63)) 59 false,
 oG 65 (.lenS (.t 64)) 59 false,
 oG 66 (.bin .neq false (.t 62) (.t 65)) 59 false,
 oV 67 (.por (.t 59) (.t 66))]
def c83_8 : OL := [
 oV 4 (.mov (.k (.bool false)))]
def c83_9 : OL := [
 oV 8 (.mov (.k (.int .i64 0)))]
def c83_10 : OL := [
 oV 68 (.mov (.t 8)),
 oV 69 (.field 2 (.t 6)),
 oV 70 (.load1 (.t 69)),
 oV 71 (.lenS (.t 70)),
 oV 72 (.bin .lss false (.t 68) (.t 71))]
def c83_12 : OL := [
 oV 75 (.field 2 (.t 6)),
 oV 76 (.load1 (.t 75)),
 oV 77 (.mov (.t 8)),
 oV 78 (.ixS 1 (.t 76) (.t 77)),
 oV 79 (.load1 (.t 78)),
 oV 80 (.field 2 (.t 7)),
 oV 81 (.load1 (.t 80)),
 oV 82 (.mov (.t 8)),
 oV 83 (.ixS 1 (.t 81) (.t 82)),
 oV 84 (.load1 (.t 83)),
 oV 85 (.bin .neq false (.t 79) (.t 84))]
def c83_13 : OL := [
 oV 4 (.mov (.k (.bool false)))]
def c83_11 : OL := [
 oV 73 (.mov (.t 8)),
 oV 74 (.bin .add true (.t 73) (.k (.int .i64 1))),
 oV 8 (.mov (.t 74))]
def c83_5 : OL := [
 oV 35 (.mov (.t 5)),
 oV 36 (.bin .add true (.t 35) (.k (.int .i64 1))),
 oV 5 (.mov (.t 36))]
def c83_14 : OL := [
 oV 4 (.mov (.k (.bool true)))]
def ref05_Same_c : ACode :=
 (.seq
 (.reg c83_0 (some ([2,3],[2,3])))
 (.seq
 (.seq
 (.reg c83_1 (some ([2,3,29],[2,3])))
 (.cond (.t 29)
 (.seq
 (.reg c83_2 (some ([4],[])))
 .ret)
 .skip))
 (.seq
 (.seq
 (.reg c83_3 (some ([2,3,5],[2,3])))
 (.block 0
 (.loop
 (.seq
 (.seq
 (.reg c83_4 (some ([2,3,5,34],[2,3])))
 (.cond (.t 34)
 .skip
 (.exit 0)))
 (.seq
 (.block 1
 (.seq
 (.regD c83_6 [(0,10),(1,10),(2,10),(3,10),(4,10),(5,10),(6,10),(7,10),(8,10),(9,10),(0,11),(1,11),(2,11),(3,11),(4,11),(5,11),(6,11),(7,11),(8,11),(9,11),(10,11),(5,12),(6,12),(7,12),(8,12),(9,12)] (some ([2,3,5,6,7],[2,3,6,7])))
 (.seq
 (.seq
 (.reg c83_7 (some ([2,3,5,6,7,67],[2,3,6,7])))
 (.cond (.t 67)
 (.seq
 (.reg c83_8 (some ([4],[])))
 .ret)
 .skip))
 (.seq
 (.reg c83_9 (some ([2,3,5,6,7,8],[2,3,6,7])))
 (.block 2
 (.loop
 (.seq
 (.seq
 (.reg c83_10 (some ([2,3,5,6,7,8,72],[2,3,6,7])))
 (.cond (.t 72)
 .skip
 (.exit 2)))
 (.seq
 (.block 3
 (.seq
 (.regD c83_12 [] (some ([2,3,5,6,7,8,85],[2,3,6,7])))
 (.cond (.t 85)
 (.seq
 (.reg c83_13 (some ([4],[])))
 .ret)
 .skip)))
 (.reg c83_11 (some ([2,3,5,6,7,8],[2,3,6,7])))))))))))
 (.reg c83_5 (some ([2,3,5],[2,3]))))))))
 (.seq
 (.reg c83_14 (some ([4],[])))
 .ret))))
def ref05_Same_k (P : Program) (F : Nat → Nat) : Prop := chkFn P (F 83) 2 (ref05_Same_c) [4] = true
def c79_0 : OL := [
 ⟨some 3,.box 3 (.t 0),none⟩,
 ⟨some 6,.alloc 3 [.nil 3,.int .i64 0,.bool false],none⟩,
 oV 7 (.mov (.k (.int .i64 0)))]
def c79_1 (F : Nat → Nat) : OL := [
 oV 8 (.loadA 3 (.t 3)),
 ⟨some 9,.call (F 76) [(.t 8)],none⟩,
 oV 10 (.not (.t 9)),
 oV 11 (.mov (.t 10)),
 oG 12 (.mov (.t 1)) 11 false,
 oG 13 (.bin .lss false (.t 12) (.k (.int .i64 0))) 11 false,
 oV 14 (.por (.t 11) (.t 13)),
 oV 15 (.mov (.t 14)),
 oG 16 (.mov (.t 1)) 15 false,
 oG 17 (.field 0 (.t 3)) 15 false,
 oG 18 (.load1 (.t 17)) 15 false,
 oG 19 (.lenS (.t 18)) 15 false,
 oG 20 (.bin .geq false (.t 16) (.t 19)) 15 false,
 oV 21 (.por (.t 15) (.t 20)),
 oV 22 (.mov (.t 21)),
 oG 23 (.mov (.t 2)) 22 false,
 oG 24 (.bin .lss false (.t 23) (.k (.int .i64 1))) 22 false,
 oV 25 (.por (.t 22) (.t 24)),
 oV 26 (.mov (.t 25)),
 oG 27 (.mov (.t 2)) 26 false,
 oG 28 (.bin .gtr false (.t 27) (.k (.int .i64 8))) 26 false,
 oV 29 (.por (.t 26) (.t 28))]
def c79_2 : OL := [
 oV 30 (.loadA 3 (.t 3)),
 ⟨none,.stA true 3 (.t 6) (.t 30),none⟩,
 oV 7 (.mov (.k (.int .i64 1)))]
def c79_3 : OL := [
 oV 31 (.field 0 (.t 3)),
 oV 32 (.load1 (.t 31)),
 oV 33 (.mov (.t 1)),
 oV 34 (.ixS 3 (.t 32) (.t 33)),
 oV 35 (.field 2 (.t 34)),
 oV 36 (.load1 (.t 35)),
 oV 37 (.lenS (.t 36)),
 oV 38 (.bin .geq false (.t 37) (.k (.int .i64 200)))]
def c79_4 : OL := [
 oV 39 (.loadA 3 (.t 3)),
 ⟨none,.stA true 3 (.t 6) (.t 39),none⟩,
 oV 7 (.mov (.k (.int .i64 7)))]
def c79_5 (F : Nat → Nat) : OL := [
 oV 40 (.field 0 (.t 3)),
 oV 41 (.load1 (.t 40)),
 ⟨some 42,.call (F 77) [(.t 41)],none⟩,
 oV 43 (.field 0 (.t 3)),
 ⟨none,.st1 true (.t 43) (.t 42),none⟩]
def c79_6 (F : Nat → Nat) : OL := [
 oV 44 (.field 0 (.t 3)),
 oV 45 (.load1 (.t 44)),
 oV 46 (.mov (.t 1)),
 oV 47 (.field 0 (.t 3)),
 oV 48 (.load1 (.t 47)),
 oV 49 (.mov (.t 1)),
 oV 50 (.ixS 3 (.t 48) (.t 49)),
 oV 51 (.field 2 (.t 50)),
 oV 52 (.load1 (.t 51)),
 ⟨some 53,.call (F 78) [(.t 52)],none⟩,
 oV 54 (.mov (.t 2)),
 ⟨some 55,.buildS 1 1 [.int .i64 0] [(0,(.t 54))],none⟩,
 ⟨some 56,.app 1 8 (.t 53) (.t 55),none⟩,
 oV 57 (.ixS 3 (.t 45) (.t 46)),
 oV 58 (.field 2 (.t 57)),
 ⟨none,.st1 false (.t 58) (.t 56),none⟩]
def c79_7 : OL := [
 oV 59 (.loadA 3 (.t 3)),
 ⟨none,.stA true 3 (.t 6) (.t 59),none⟩,
 oV 7 (.mov (.k (.int .i64 0)))]
def lanes_Push_c (F : Nat → Nat) : ACode :=
 (.seq
 (.reg c79_0 (some ([1,2,3,6],[3,6,55,56,1042,1053])))
 (.seq
 (.seq
 (.reg (c79_1 F) (some ([1,2,3,6,29],[3,6,55,56,1042,1053])))
 (.cond (.t 29)
 (.seq
 (.reg c79_2 (some ([6,7],[6,55,56,1042,1053])))
 .ret)
 .skip))
 (.seq
 (.seq
 (.reg c79_3 (some ([1,2,3,6,38],[3,6,55,56,1042,1053])))
 (.cond (.t 38)
 (.seq
 (.reg c79_4 (some ([6,7],[6,55,56,1042,1053])))
 .ret)
 .skip))
 (.seq
 (.reg (c79_5 F) (some ([1,2,3,6],[3,6,55,56,1042,1053])))
 (.seq
 (.regD (c79_6 F) [(0,9),(1,9),(2,9),(9,10),(0,11),(1,11),(2,11),(3,11),(4,11),(5,11),(6,11),(7,11),(8,11),(9,11),(0,12),(1,12),(2,12)] (some ([3,6],[3,6,55,56,1042,1053])))
 (.seq
 (.reg c79_7 (some ([6,7],[6,55,56,1042,1053])))
 .ret))))))
def lanes_Push_k (P : Program) (F : Nat → Nat) : Prop := chkFn P (F 79) 3 (lanes_Push_c F) [.loadA 3 (.t 6),7] = true
def c76_0 : OL := [
 ⟨some 1,.box 3 (.t 0),none⟩,
 oV 2 (.mov (.k (.bool false)))]
def c76_1 : OL := [
 oV 8 (.field 0 (.t 1)),
 oV 9 (.load1 (.t 8)),
 oV 10 (.lenS (.t 9)),
 oV 11 (.bin .lss false (.t 10) (.k (.int .i64 1))),
 oV 12 (.mov (.t 11)),
 oG 13 (.field 0 (.t 1)) 12 false,
 oG 14 (.load1 (.t 13)) 12 false,
 oG 15 (.lenS (.t 14)) 12 false,
 oG 16 (.bin .gtr false (.t 15) (.k (.int .i64 6))) 12 false,
 oV 17 (.por (.t 12) (.t 16)),
 oV 18 (.mov (.t 17)),
 oG 19 (.field 1 (.t 1)) 18 false,
 oG 20 (.load1 (.t 19)) 18 false,
 oG 21 (.bin .lss false (.t 20) (.k (.int .i64 0))) 18 false,
 oV 22 (.por (.t 18) (.t 21)),
 oV 23 (.mov (.t 22)),
 oG 24 (.field 1 (.t 1)) 23 false,
 oG 25 (.load1 (.t 24)) 23 false,
 oG 26 (.field 0 (.t 1)) 23 false,
 oG 27 (.load1 (.t 26)) 23 false,
 oG 28 (.lenS (.t 27)) 23 false,
 oG 29 (.bin .geq false (.t 25) (.t 28)) 23 false,
 oV 30 (.por (.t 23) (.t 29))]
def c76_2 : OL := [
 oV 2 (.mov (.k (.bool false)))]
def c76_3 : OL := [
 oV 31 (.field 0 (.t 1)),
 oV 32 (.load1 (.t 31)),
 oV 33 (.lenS (.t 32)),
 oV 34 (.mov (.k (.int .i64 0)))]
def c76_4 : OL := [
 oV 35 (.bin .lss false (.t 34) (.t 33))]
def c76_5 : OL := [
 oV 36 (.mov (.t 34)),
 oV 37 (.ixS 3 (.t 32) (.t 34)),
 oV 38 (.loadA 3 (.t 37)),
 ⟨some 4,.alloc 3 [.int .i64 0,.int .i64 0,.nil 1],none⟩,
 oV 3 (.mov (.t 36)),
 ⟨none,.stA true 3 (.t 4) (.t 38),none⟩]
def c76_6 : OL := [
 oV 5 (.mov (.k (.int .i64 7)))]
def c76_7 : OL := [
 oV 39 (.mov (.t 3)),
 oV 40 (.field 1 (.t 1)),
 oV 41 (.load1 (.t 40)),
 oV 42 (.bin .eql false (.t 39) (.t 41)),
 oV 43 (.mov (.t 42)),
 oG 44 (.field 2 (.t 1)) 43 true,
 oG 45 (.load1 (.t 44)) 43 true,
 oV 46 (.pand (.t 43) (.t 45))]
def c76_8 : OL := [
 oV 5 (.mov (.k (.int .i64 39)))]
def c76_9 : OL := [
 oV 47 (.field 0 (.t 4)),
 oV 48 (.load1 (.t 47)),
 oV 49 (.bin .lss false (.t 48) (.k (.int .i64 1))),
 oV 50 (.mov (.t 49)),
 oG 51 (.field 0 (.t 4)) 50 false,
 oG 52 (.load1 (.t 51)) 50 false,
 oG 53 (.bin .gtr false (.t 52) (.k (.int .i64 8))) 50 false,
 oV 54 (.por (.t 50) (.t 53)),
 oV 55 (.mov (.t 54)),
 oG 56 (.field 1 (.t 4)) 55 false,
 oG 57 (.load1 (.t 56)) 55 false,
 oG 58 (.bin .lss false (.t 57) (.k (.int .i64 0))) 55 false,
 oV 59 (.por (.t 55) (.t 58)),
 oV 60 (.mov (.t 59)),
 oG 61 (.field 1 (.t 4)) 60 false,
 oG 62 (.load1 (.t 61)) 60 false,
 oG 63 (.mov (.t 5)) 60 false,
 oG 64 (.bin .gtr false (.t 62) (.t 63)) 60 false,
 oV 65 (.por (.t 60) (.t 64))]
def c76_10 : OL := [
 oV 2 (.mov (.k (.bool false)))]
def c76_11 : OL := [
 oV 66 (.field 2 (.t 4)),
 oV 67 (.load1 (.t 66)),
 oV 68 (.lenS (.t 67)),
 oV 69 (.bin .gtr false (.t 68) (.k (.int .i64 200)))]
def c76_12 : OL := [
 oV 2 (.mov (.k (.bool false)))]
def c76_13 : OL := [
 oV 70 (.field 2 (.t 4)),
 oV 71 (.load1 (.t 70)),
 oV 72 (.lenS (.t 71)),
 oV 73 (.mov (.k (.int .i64 0)))]
def c76_14 : OL := [
 oV 74 (.bin .lss false (.t 73) (.t 72))]
def c76_15 : OL := [
 oV 75 (.ixS 1 (.t 71) (.t 73)),
 oV 76 (.load1 (.t 75)),
 oV 7 (.mov (.t 76))]
def c76_16 : OL := [
 oV 77 (.mov (.t 7)),
 oV 78 (.bin .lss false (.t 77) (.k (.int .i64 1))),
 oV 79 (.mov (.t 78)),
 oG 80 (.mov (.t 7)) 79 false,
 oG 81 (.bin .gtr false (.t 80) (.k (.int .i64 8))) 79 false,
 oV 82 (.por (.t 79) (.t 81))]
def c76_17 : OL := [
 oV 2 (.mov (.k (.bool false)))]
def c76_18 : OL := [
 oV 83 (.bin .add true (.t 73) (.k (.int .i64 1))),
 oV 73 (.mov (.t 83))]
def c76_19 : OL := [
 oV 84 (.bin .add true (.t 34) (.k (.int .i64 1))),
 oV 34 (.mov (.t 84))]
def c76_20 : OL := [
 oV 2 (.mov (.k (.bool true)))]
def lanes_Right_c : ACode :=
 (.seq
 (.reg c76_0 (some ([1],[1])))
 (.seq
 (.seq
 (.reg c76_1 (some ([1,30],[1])))
 (.cond (.t 30)
 (.seq
 (.reg c76_2 (some ([2],[])))
 .ret)
 .skip))
 (.seq
 (.seq
 (.reg c76_3 (some ([1,32,33,34],[1])))
 (.block 0
 (.loop
 (.seq
 (.reg c76_4 (some ([1,32,33,34,35],[1])))
 (.seq
 (.cond (.t 35)
 .skip
 (.exit 0))
 (.seq
 (.block 1
 (.seq
 (.reg c76_5 (some ([1,3,4,32,33,34],[1,4])))
 (.seq
 (.reg c76_6 (some ([1,3,4,5,32,33,34],[1,4])))
 (.seq
 (.seq
 (.reg c76_7 (some ([1,4,5,32,33,34,46],[1,4])))
 (.cond (.t 46)
 (.reg c76_8 (some ([1,4,5,32,33,34],[1,4])))
 .skip))
 (.seq
 (.seq
 (.reg c76_9 (some ([1,4,32,33,34,65],[1,4])))
 (.cond (.t 65)
 (.seq
 (.reg c76_10 (some ([2],[])))
 .ret)
 .skip))
 (.seq
 (.seq
 (.reg c76_11 (some ([1,4,32,33,34,69],[1,4])))
 (.cond (.t 69)
 (.seq
 (.reg c76_12 (some ([2],[])))
 .ret)
 .skip))
 (.seq
 (.reg c76_13 (some ([1,32,33,34,71,72,73],[1])))
 (.block 2
 (.loop
 (.seq
 (.reg c76_14 (some ([1,32,33,34,71,72,73,74],[1])))
 (.seq
 (.cond (.t 74)
 .skip
 (.exit 2))
 (.seq
 (.block 3
 (.seq
 (.reg c76_15 (some ([1,7,32,33,34,71,72,73],[1])))
 (.seq
 (.reg c76_16 (some ([1,32,33,34,71,72,73,82],[1])))
 (.cond (.t 82)
 (.seq
 (.reg c76_17 (some ([2],[])))
 .ret)
 .skip))))
 (.reg c76_18 (some ([1,32,33,34,71,72,73],[1])))))))))))))))
 (.reg c76_19 (some ([1,32,33,34],[1])))))))))
 (.seq
 (.reg c76_20 (some ([2],[])))
 .ret))))
def lanes_Right_k (P : Program) (F : Nat → Nat) : Prop := chkFn P (F 76) 1 (lanes_Right_c) [2] = true
def c86_0 : OL := [
 ⟨some 1,.box 3 (.t 0),none⟩,
 ⟨some 2,.alloc 3 [.nil 3,.int .i64 0,.bool false],none⟩,
 oV 3 (.mov (.k (.int .i64 0))),
 oV 4 (.mov (.k (.int .i64 0))),
 oV 5 (.mov (.k (.bool false)))]
def c86_1 (F : Nat → Nat) : OL := [
 oV 8 (.loadA 3 (.t 1)),
 ⟨some 9,.call (F 76) [(.t 8)],none⟩,
 oV 10 (.not (.t 9)),
 oV 11 (.mov (.t 10)),
 oG 12 (.loadA 3 (.t 1)) 11 false,
 ⟨some 13,.call (F 93) [(.t 12)],some (11,false)⟩,
 oG 14 (.not (.t 13)) 11 false,
 oV 15 (.por (.t 11) (.t 14))]
def c86_2 : OL := [
 oV 16 (.loadA 3 (.t 1)),
 ⟨none,.stA true 3 (.t 2) (.t 16),none⟩,
 oV 3 (.mov (.k (.int .i64 0))),
 oV 4 (.mov (.k (.int .i64 0))),
 oV 5 (.mov (.k (.bool false)))]
def c86_3 (F : Nat → Nat) : OL := [
 oV 17 (.field 0 (.t 1)),
 oV 18 (.load1 (.t 17)),
 ⟨some 19,.call (F 77) [(.t 18)],none⟩,
 oV 20 (.field 0 (.t 1)),
 ⟨none,.st1 true (.t 20) (.t 19),none⟩]
def c86_4 : OL := [
 oV 6 (.mov (.k (.int .i64 0)))]
def c86_6 : OL := [
 oV 30 (.field 0 (.t 1)),
 oV 31 (.load1 (.t 30)),
 oV 32 (.field 1 (.t 1)),
 oV 33 (.load1 (.t 32)),
 oV 34 (.ixS 3 (.t 31) (.t 33)),
 oV 7 (.mov (.t 34))]
def c86_7 : OL := [
 oV 35 (.mov (.t 7)),
 oV 36 (.nilc (.t 35)),
 oV 37 (.field 2 (.t 36)),
 oV 38 (.load1 (.t 37)),
 oV 39 (.lenS (.t 38)),
 oV 40 (.bin .eql false (.t 39) (.k (.int .i64 0)))]
def c86_8 : OL := [
 oV 41 (.mov (.t 7)),
 oV 42 (.nilc (.t 41)),
 oV 43 (.field 1 (.t 42)),
 ⟨none,.st1 false (.t 43) (.k (.int .i64 0)),none⟩]
def c86_9 : OL := [
 oV 44 (.field 2 (.t 1)),
 oV 45 (.load1 (.t 44)),
 oV 46 (.not (.t 45))]
def c86_10 : OL := [
 oV 47 (.mov (.t 7)),
 oV 48 (.nilc (.t 47)),
 oV 49 (.field 1 (.t 48)),
 oV 50 (.load1 (.t 49)),
 oV 51 (.mov (.t 7)),
 oV 52 (.nilc (.t 51)),
 oV 53 (.field 0 (.t 52)),
 oV 54 (.load1 (.t 53)),
 oV 55 (.bin .mul true (.t 54) (.k (.int .i64 4))),
 oV 56 (.bin .add true (.t 50) (.t 55)),
 oV 57 (.nilc (.t 47)),
 oV 58 (.field 1 (.t 57)),
 ⟨none,.st1 false (.t 58) (.t 56),none⟩]
def c86_11 : OL := [
 oV 59 (.field 2 (.t 1)),
 ⟨none,.st1 true (.t 59) (.k (.bool true)),none⟩]
def c86_12 : OL := [
 oV 60 (.mov (.t 7)),
 oV 61 (.nilc (.t 60)),
 oV 62 (.field 2 (.t 61)),
 oV 63 (.load1 (.t 62)),
 oV 64 (.ixS 1 (.t 63) (.k (.int .i64 0))),
 oV 65 (.load1 (.t 64)),
 oV 66 (.mov (.t 7)),
 oV 67 (.nilc (.t 66)),
 oV 68 (.field 1 (.t 67)),
 oV 69 (.load1 (.t 68)),
 oV 70 (.bin .gtr false (.t 65) (.t 69))]
def c86_13 : OL := [
 oV 71 (.mov (.t 7)),
 oV 72 (.nilc (.t 71)),
 oV 73 (.field 2 (.t 72)),
 oV 74 (.load1 (.t 73)),
 oV 75 (.ixS 1 (.t 74) (.k (.int .i64 0))),
 oV 76 (.load1 (.t 75)),
 oV 6 (.mov (.t 76))]
def c86_14 (F : Nat → Nat) : OL := [
 oV 77 (.mov (.t 7)),
 oV 78 (.mov (.t 7)),
 oV 79 (.nilc (.t 78)),
 oV 80 (.field 2 (.t 79)),
 oV 81 (.load1 (.t 80)),
 oV 82 (.slS 1 (.t 81) (some (.k (.int .i64 1))) none),
 ⟨some 83,.call (F 78) [(.t 82)],none⟩,
 oV 84 (.nilc (.t 77)),
 oV 85 (.field 2 (.t 84)),
 ⟨none,.st1 false (.t 85) (.t 83),none⟩]
def c86_15 : OL := [
 oV 86 (.mov (.t 7)),
 oV 87 (.nilc (.t 86)),
 oV 88 (.field 1 (.t 87)),
 oV 89 (.load1 (.t 88)),
 oV 90 (.mov (.t 6)),
 oV 91 (.bin .sub true (.t 89) (.t 90)),
 oV 92 (.nilc (.t 86)),
 oV 93 (.field 1 (.t 92)),
 ⟨none,.st1 false (.t 93) (.t 91),none⟩]
def c86_16 : OL := [
 oV 94 (.mov (.t 7)),
 oV 95 (.nilc (.t 94)),
 oV 96 (.field 2 (.t 95)),
 oV 97 (.load1 (.t 96)),
 oV 98 (.lenS (.t 97)),
 oV 99 (.bin .eql false (.t 98) (.k (.int .i64 0)))]
def c86_17 : OL := [
 oV 100 (.mov (.t 7)),
 oV 101 (.nilc (.t 100)),
 oV 102 (.field 1 (.t 101)),
 ⟨none,.st1 false (.t 102) (.k (.int .i64 0)),none⟩]
def c86_5 : OL := [
 oV 21 (.field 1 (.t 1)),
 oV 22 (.load1 (.t 21)),
 oV 23 (.bin .add true (.t 22) (.k (.int .i64 1))),
 oV 24 (.field 0 (.t 1)),
 oV 25 (.load1 (.t 24)),
 oV 26 (.lenS (.t 25)),
 oV 27 (.bin .rem true (.t 23) (.t 26)),
 oV 28 (.field 1 (.t 1)),
 ⟨none,.st1 true (.t 28) (.t 27),none⟩,
 oV 29 (.field 2 (.t 1)),
 ⟨none,.st1 true (.t 29) (.k (.bool false)),none⟩]
def c86_18 : OL := [
 oV 103 (.loadA 3 (.t 1)),
 oV 104 (.field 1 (.t 1)),
 oV 105 (.load1 (.t 104)),
 oV 106 (.mov (.t 6)),
 ⟨none,.stA true 3 (.t 2) (.t 103),none⟩,
 oV 3 (.mov (.t 105)),
 oV 4 (.mov (.t 106)),
 oV 5 (.mov (.k (.bool true)))]
def lanes_Next_c (F : Nat → Nat) : ACode :=
 (.seq
 (.reg c86_0 (some ([1,2],[1,2,1019,1083])))
 (.scope
 (.seq
 (.seq
 (.reg (c86_1 F) (some ([1,2,15],[1,2,1019,1083])))
 (.cond (.t 15)
 (.seq
 (.reg c86_2 (some ([2,3,4,5],[2,1019,1083])))
 .ret)
 .skip))
 (.seq
 (.reg (c86_3 F) (some ([1,2],[1,2,1019,1083])))
 (.seq
 (.reg c86_4 (some ([1,2],[1,2,1019,1083])))
 (.seq
 .skip
 (.seq
 (.block 0
 (.loop
 (.seq
 (.block 1
 (.seq
 (.reg c86_6 (some ([1,2,7],[1,2,1019,1083])))
 (.seq
 (.seq
 (.reg c86_7 (some ([1,2,7,40],[1,2,1019,1083])))
 (.cond (.t 40)
 (.seq
 (.reg c86_8 (some ([1,2],[1,2,1019,1083])))
 (.exit 1))
 .skip))
 (.seq
 (.seq
 (.reg c86_9 (some ([1,2,7,46],[1,2,1019,1083])))
 (.cond (.t 46)
 (.seq
 (.regD c86_10 [] (some ([1,2,7],[1,2,1019,1083])))
 (.reg c86_11 (some ([1,2,7],[1,2,1019,1083]))))
 .skip))
 (.seq
 (.seq
 (.regD c86_12 [] (some ([1,2,7,70],[1,2,1019,1083])))
 (.cond (.t 70)
 (.exit 1)
 .skip))
 (.seq
 (.reg c86_13 (some ([1,2,6,7],[1,2,1019,1083])))
 (.seq
 (.reg (c86_14 F) (some ([1,2,6,7],[1,2,1019,1083])))
 (.seq
 (.reg c86_15 (some ([1,2,6,7],[1,2,1019,1083])))
 (.seq
 (.seq
 (.reg c86_16 (some ([1,2,6,7,99],[1,2,1019,1083])))
 (.cond (.t 99)
 (.reg c86_17 (some ([1,2,6],[1,2,1019,1083])))
 .skip))
 (.exit 0))))))))))
 (.reg c86_5 (some ([1,2],[1,2,1019,1083]))))))
 (.seq
 (.regD c86_18 [(1,4),(2,4),(3,4)] (some ([2,3,4,5],[2,1019,1083])))
 .ret))))))))
def lanes_Next_k (P : Program) (F : Nat → Nat) : Prop := chkFn P (F 86) 1 (lanes_Next_c F) [.loadA 3 (.t 2),3,4,5] = true
def c77_0 : OL := [
 oV 2 (.mov (.k (.nil 3)))]
def c77_1 : OL := [
 oV 3 (.mov (.t 0)),
 oV 4 (.nilS (.t 3))]
def c77_2 : OL := [
 oV 2 (.mov (.k (.nil 3)))]
def c77_3 : OL := [
 ⟨some 5,.buildS 3 0 [.int .i64 0,.int .i64 0,.nil 1] [],none⟩,
 oV 6 (.mov (.t 0)),
 ⟨some 7,.app 3 40 (.t 5) (.t 6),none⟩,
 oV 2 (.mov (.t 7))]
def sl_Clone_lanes_Lane_c : ACode :=
 (.seq
 (.reg c77_0 (some ([0],[5,7])))
 (.seq
 (.seq
 (.reg c77_1 (some ([0,4],[5,7])))
 (.cond (.t 4)
 (.seq
 (.reg c77_2 (some ([2],[5,7])))
 .ret)
 .skip))
 (.seq
 (.reg c77_3 (some ([2],[5,7])))
 .ret)))
def sl_Clone_lanes_Lane_k (P : Program) (F : Nat → Nat) : Prop := chkFn P (F 77) 1 (sl_Clone_lanes_Lane_c) [2] = true
def c78_0 : OL := [
 oV 2 (.mov (.k (.nil 1)))]
def c78_1 : OL := [
 oV 3 (.mov (.t 0)),
 oV 4 (.nilS (.t 3))]
def c78_2 : OL := [
 oV 2 (.mov (.k (.nil 1)))]
def c78_3 : OL := [
 ⟨some 5,.buildS 1 0 [.int .i64 0] [],none⟩,
 oV 6 (.mov (.t 0)),
 ⟨some 7,.app 1 8 (.t 5) (.t 6),none⟩,
 oV 2 (.mov (.t 7))]
def sl_Clone_int_c : ACode :=
 (.seq
 (.reg c78_0 (some ([0],[5,7])))
 (.seq
 (.seq
 (.reg c78_1 (some ([0,4],[5,7])))
 (.cond (.t 4)
 (.seq
 (.reg c78_2 (some ([2],[5,7])))
 .ret)
 .skip))
 (.seq
 (.reg c78_3 (some ([2],[5,7])))
 .ret)))
def sl_Clone_int_k (P : Program) (F : Nat → Nat) : Prop := chkFn P (F 78) 1 (sl_Clone_int_c) [2] = true
def c93_0 : OL := [
 ⟨some 1,.box 3 (.t 0),none⟩,
 oV 2 (.mov (.k (.bool false)))]
def c93_1 (F : Nat → Nat) : OL := [
 oV 3 (.field 0 (.t 1)),
 oV 4 (.load1 (.t 3)),
 ⟨some 5,.call (F 94) [(.t 4),(.k (.fn (F 95)))],none⟩,
 oV 2 (.mov (.t 5))]
def lanes_waits_c (F : Nat → Nat) : ACode :=
 (.seq
 (.reg c93_0 (some ([1],[1])))
 (.seq
 (.reg (c93_1 F) (some ([2],[])))
 .ret))
def lanes_waits_k (P : Program) (F : Nat → Nat) : Prop := chkFn P (F 93) 1 (lanes_waits_c F) [2] = true
def c94_0 : OL := [
 oV 4 (.mov (.k (.bool false)))]
def c94_1 (F : Nat → Nat) : OL := [
 oV 5 (.mov (.t 0)),
 oV 6 (.mov (.t 1)),
 ⟨some 7,.call (F 144) [(.t 5),(.t 6)],none⟩,
 oV 8 (.bin .geq false (.t 7) (.k (.int .i64 0))),
 oV 4 (.mov (.t 8))]
def sl_ContainsFunc_lanes_Lane_c (F : Nat → Nat) : ACode :=
 (.seq
 (.reg c94_0 (some ([0,1],[])))
 (.seq
 (.reg (c94_1 F) (some ([4],[])))
 .ret))
def sl_ContainsFunc_lanes_Lane_k (P : Program) (F : Nat → Nat) : Prop := chkFn P (F 94) 2 (sl_ContainsFunc_lanes_Lane_c F) [4] = true
def c95_0 : OL := [
 ⟨some 1,.box 3 (.t 0),none⟩,
 oV 2 (.mov (.k (.bool false)))]
def c95_1 : OL := [
 oV 3 (.field 2 (.t 1)),
 oV 4 (.load1 (.t 3)),
 oV 5 (.lenS (.t 4)),
 oV 6 (.bin .gtr false (.t 5) (.k (.int .i64 0))),
 oV 2 (.mov (.t 6))]
def lanes_waits_1_c : ACode :=
 (.seq
 (.reg c95_0 (some ([1],[1])))
 (.seq
 (.reg c95_1 (some ([2],[])))
 .ret))
def lanes_waits_1_k (P : Program) (F : Nat → Nat) : Prop := chkFn P (F 95) 1 (lanes_waits_1_c) [2] = true
def c144_0 : OL := [
 oV 4 (.mov (.k (.int .i64 0)))]
def c144_1 : OL := [
 oV 6 (.mov (.t 0)),
 oV 7 (.lenS (.t 6)),
 oV 8 (.mov (.k (.int .i64 0)))]
def c144_2 : OL := [
 oV 9 (.bin .lss false (.t 8) (.t 7))]
def c144_3 : OL := [
 oV 10 (.mov (.t 8)),
 oV 5 (.mov (.t 10))]
def c144_4 : OL := [
 oV 11 (.mov (.t 1)),
 oV 12 (.mov (.t 0)),
 oV 13 (.mov (.t 5)),
 oV 14 (.ixS 3 (.t 12) (.t 13)),
 oV 15 (.loadA 3 (.t 14)),
 ⟨some 16,.callv (.t 11) [(.t 15)],none⟩]
def c144_5 : OL := [
 oV 17 (.mov (.t 5)),
 oV 4 (.mov (.t 17))]
def c144_6 : OL := [
 oV 18 (.bin .add true (.t 8) (.k (.int .i64 1))),
 oV 8 (.mov (.t 18))]
def c144_7 : OL := [
 oV 4 (.mov (.k (.int .i64 (-1))))]
def sl_IndexFunc_lanes_Lane_c : ACode :=
 (.seq
 (.reg c144_0 (some ([0,1],[])))
 (.seq
 (.seq
 (.reg c144_1 (some ([0,1,7,8],[])))
 (.block 0
 (.loop
 (.seq
 (.reg c144_2 (some ([0,1,7,8,9],[])))
 (.seq
 (.cond (.t 9)
 .skip
 (.exit 0))
 (.seq
 (.block 1
 (.seq
 (.reg c144_3 (some ([0,1,5,7,8],[])))
 (.seq
 (.reg c144_4 (some ([0,1,5,7,8,16],[])))
 (.cond (.t 16)
 (.seq
 (.reg c144_5 (some ([4],[])))
 .ret)
 .skip))))
 (.reg c144_6 (some ([0,1,7,8],[])))))))))
 (.seq
 (.reg c144_7 (some ([4],[])))
 .ret)))
def sl_IndexFunc_lanes_Lane_k (P : Program) (F : Nat → Nat) : Prop := chkFn P (F 144) 2 (sl_IndexFunc_lanes_Lane_c) [4] = true
end Lk.C
