/-
  CCa: what these chapters need.
-/
import Derived.Test.YtaijfhomokkpeaaLkC
set_option linter.unusedSimpArgs false
set_option maxHeartbeats 8000000
set_option maxRecDepth 100000
set_option linter.unusedVariables false
namespace Lk.C
open Go Lk
def c164_0 : OL := [
 oV 4 (.mov (.k (.bool false)))]
def c164_1 : OL := [
 oV 29 (.mov (.t 0)),
 oV 30 (.lenS (.t 29)),
 oV 31 (.bin .gtr false (.t 30) (.k (.int .i64 20))),
 oV 32 (.mov (.t 31)),
 oG 33 (.mov (.t 1)) 32 false,
 oG 34 (.lenS (.t 33)) 32 false,
 oG 35 (.bin .gtr false (.t 34) (.k (.int .i64 60))) 32 false,
 oV 36 (.por (.t 32) (.t 35))]
def c164_2 (F : Nat → Nat) : OL := [
 ⟨some 37,.call (F 176) [],none⟩,
 oV 4 (.mov (.t 37))]
def c164_3 (F : Nat → Nat) : OL := [
 ⟨some 39,.call (F 172) [],none⟩,
 oV 40 (.mov (.t 0)),
 ⟨some 41,.call (F 175) [(.t 39),(.t 40)],none⟩,
 oV 38 (.mov (.t 41)),
 oV 42 (.extr 0 (.t 38)),
 oV 43 (.extr 1 (.t 38)),
 ⟨some 5,.alloc 9 [.nil 3,.int .i64 0,.bool false,.nil 1,.nil 1,.nil 2,.int .i64 0,.nil 4,.nil 5],none⟩,
 ⟨none,.stA true 9 (.t 5) (.t 42),none⟩,
 oV 6 (.mov (.t 43))]
def c164_4 : OL := [
 oV 44 (.build 3 [.nil 3,.int .i64 0,.bool false] []),
 ⟨some 7,.alloc 3 [.nil 3,.int .i64 0,.bool false],none⟩,
 ⟨none,.stA true 3 (.t 7) (.t 44),none⟩]
def c164_5 : OL := [
 oV 45 (.mov (.t 0)),
 oV 46 (.lenS (.t 45)),
 oV 47 (.mov (.k (.int .i64 0)))]
def c164_6 : OL := [
 oV 48 (.bin .lss false (.t 47) (.t 46))]
def c164_7 : OL := [
 oV 49 (.ixS 1 (.t 45) (.t 47)),
 oV 50 (.load1 (.t 49)),
 oV 9 (.mov (.t 50))]
def c164_8 : OL := [
 oV 51 (.field 0 (.t 7)),
 oV 52 (.load1 (.t 51)),
 oV 53 (.mov (.t 9)),
 oV 54 (.build 3 [.int .i64 0,.int .i64 0,.nil 1] [(0,1,(.t 53))]),
 ⟨some 55,.buildS 3 1 [.int .i64 0,.int .i64 0,.nil 1] [(0,(.t 54))],none⟩,
 ⟨some 56,.app 3 40 (.t 52) (.t 55),none⟩,
 oV 57 (.field 0 (.t 7)),
 ⟨none,.st1 true (.t 57) (.t 56),none⟩]
def c164_9 : OL := [
 oV 58 (.bin .add true (.t 47) (.k (.int .i64 1))),
 oV 47 (.mov (.t 58))]
def c164_10 (F : Nat → Nat) : OL := [
 oV 59 (.loadA 3 (.t 7)),
 ⟨some 60,.call (F 82) [(.t 59)],none⟩,
 oV 61 (.not (.t 60))]
def c164_11 (F : Nat → Nat) : OL := [
 oV 62 (.mov (.t 6)),
 oV 63 (.bin .eql false (.t 62) (.k (.int .i64 1))),
 oV 64 (.mov (.t 63)),
 oG 65 (.field 3 (.t 5)) 64 true,
 oG 66 (.load1 (.t 65)) 64 true,
 oG 67 (.lenS (.t 66)) 64 true,
 oG 68 (.bin .eql false (.t 67) (.k (.int .i64 0))) 64 true,
 oV 69 (.pand (.t 64) (.t 68)),
 oV 70 (.mov (.t 69)),
 ⟨some 71,.call (F 176) [],some (70,true)⟩,
 oV 72 (.pand (.t 70) (.t 71)),
 oV 4 (.mov (.t 72))]
def c164_12 (F : Nat → Nat) : OL := [
 oV 73 (.loadA 3 (.t 7)),
 oV 74 (.mov (.t 0)),
 oV 75 (.lenS (.t 74)),
 ⟨some 76,.mk 1 24 [.nil 5] (.t 75),none⟩,
 ⟨some 77,.call (F 172) [],none⟩,
 oV 78 (.fldA 0 2 (.t 77)),
 oV 79 (.build 4 [.nil 1,.nil 2,.int .i64 0,.nil 4] [(0,2,(.t 78))]),
 oV 80 (.build 9 [.nil 3,.int .i64 0,.bool false,.nil 1,.nil 1,.nil 2,.int .i64 0,.nil 4,.nil 5] [(0,3,(.t 73)),(3,1,(.t 76)),(4,4,(.t 79))]),
 ⟨some 10,.alloc 9 [.nil 3,.int .i64 0,.bool false,.nil 1,.nil 1,.nil 2,.int .i64 0,.nil 4,.nil 5],none⟩,
 ⟨none,.stA true 9 (.t 10) (.t 80),none⟩]
def c164_13 : OL := [
 oV 81 (.mov (.t 6)),
 oV 82 (.bin .neq false (.t 81) (.k (.int .i64 0)))]
def c164_14 : OL := [
 oV 4 (.mov (.k (.bool false)))]
def c164_15 : OL := [
 oV 83 (.mov (.t 1)),
 oV 84 (.lenS (.t 83)),
 oV 85 (.mov (.k (.int .i64 0)))]
def c164_16 : OL := [
 oV 86 (.bin .lss false (.t 85) (.t 84))]
def c164_17 : OL := [
 oV 87 (.ixS 7 (.t 83) (.t 85)),
 oV 88 (.loadA 7 (.t 87)),
 ⟨some 12,.alloc 7 [.int .i64 0,.int .i64 0,.int .i64 0,.int .i64 0,.int .i64 0,.str [],.int .i64 0],none⟩,
 ⟨none,.stA true 7 (.t 12) (.t 88),none⟩]
def c164_18 : OL := [
 oV 89 (.field 2 (.t 12)),
 oV 90 (.field 3 (.t 89)),
 oV 91 (.load1 (.t 90)),
 oV 92 (.lenT (.t 91)),
 oV 93 (.bin .gtr false (.t 92) (.k (.int .i64 100)))]
def c164_19 (F : Nat → Nat) : OL := [
 ⟨some 94,.call (F 176) [],none⟩,
 oV 4 (.mov (.t 94))]
def c164_20 : OL := [
 oV 95 (.field 0 (.t 12)),
 oV 96 (.load1 (.t 95))]
def c164_21 : OL := [
 oV 98 (.bin .eql false (.t 96) (.k (.int .i64 0))),
 oV 97 (.mov (.t 98))]
def c164_22 (F : Nat → Nat) : OL := [
 oV 100 (.loadA 9 (.t 5)),
 oV 101 (.field 2 (.t 12)),
 oV 102 (.loadA 5 (.t 101)),
 ⟨some 103,.call (F 177) [(.t 100),(.t 102)],none⟩,
 oV 99 (.mov (.t 103)),
 oV 104 (.extr 0 (.t 99)),
 oV 105 (.extr 1 (.t 99)),
 ⟨some 13,.alloc 9 [.nil 3,.int .i64 0,.bool false,.nil 1,.nil 1,.nil 2,.int .i64 0,.nil 4,.nil 5],none⟩,
 ⟨none,.stA true 9 (.t 13) (.t 104),none⟩,
 oV 14 (.mov (.t 105))]
def c164_23 (F : Nat → Nat) : OL := [
 oV 107 (.loadA 9 (.t 10)),
 oV 108 (.field 2 (.t 12)),
 oV 109 (.loadA 5 (.t 108)),
 ⟨some 110,.call (F 180) [(.t 107),(.t 109)],none⟩,
 oV 106 (.mov (.t 110)),
 oV 111 (.extr 0 (.t 106)),
 oV 112 (.extr 1 (.t 106)),
 ⟨some 15,.alloc 9 [.nil 3,.int .i64 0,.bool false,.nil 1,.nil 1,.nil 2,.int .i64 0,.nil 4,.nil 5],none⟩,
 ⟨none,.stA true 9 (.t 15) (.t 111),none⟩,
 oV 16 (.mov (.t 112))]
def c164_24 : OL := [
 oV 113 (.mov (.t 14)),
 oV 114 (.mov (.t 16)),
 oV 115 (.bin .neq false (.t 113) (.t 114))]
def c164_25 : OL := [
 oV 4 (.mov (.k (.bool false)))]
def c164_26 : OL := [
 oV 116 (.loadA 9 (.t 13)),
 oV 117 (.loadA 9 (.t 15)),
 ⟨none,.stA true 9 (.t 5) (.t 116),none⟩,
 ⟨none,.stA true 9 (.t 10) (.t 117),none⟩]
def c164_27 : OL := [
 oV 119 (.bin .eql false (.t 96) (.k (.int .i64 1))),
 oV 118 (.mov (.t 119))]
def c164_28 (F : Nat → Nat) : OL := [
 oV 120 (.loadA 9 (.t 5)),
 ⟨some 121,.call (F 178) [(.t 120)],none⟩,
 oV 122 (.loadA 9 (.t 10)),
 ⟨some 123,.call (F 181) [(.t 122)],none⟩,
 ⟨none,.stA true 9 (.t 5) (.t 121),none⟩,
 ⟨none,.stA true 9 (.t 10) (.t 123),none⟩]
def c164_29 : OL := [
 oV 125 (.bin .eql false (.t 96) (.k (.int .i64 2))),
 oV 124 (.mov (.t 125))]
def c164_30 : OL := [
 oV 126 (.bin .eql false (.t 96) (.k (.int .i64 3))),
 oV 124 (.mov (.t 126))]
def c164_31 (F : Nat → Nat) : OL := [
 oV 128 (.loadA 9 (.t 5)),
 oV 129 (.field 1 (.t 12)),
 oV 130 (.load1 (.t 129)),
 oV 131 (.field 0 (.t 12)),
 oV 132 (.load1 (.t 131)),
 oV 133 (.bin .eql false (.t 132) (.k (.int .i64 3))),
 ⟨some 134,.call (F 179) [(.t 128),(.t 130),(.t 133)],none⟩,
 oV 127 (.mov (.t 134)),
 oV 135 (.extr 0 (.t 127)),
 oV 136 (.extr 1 (.t 127)),
 oV 137 (.extr 2 (.t 127)),
 oV 138 (.extr 3 (.t 127)),
 ⟨some 17,.alloc 9 [.nil 3,.int .i64 0,.bool false,.nil 1,.nil 1,.nil 2,.int .i64 0,.nil 4,.nil 5],none⟩,
 ⟨some 18,.alloc 5 [.int .i64 0,.int .i64 0,.int .i64 0,.str [],.int .i64 0],none⟩,
 ⟨none,.stA true 9 (.t 17) (.t 135),none⟩,
 ⟨none,.stA true 5 (.t 18) (.t 136),none⟩,
 oV 19 (.mov (.t 137)),
 oV 20 (.mov (.t 138))]
def c164_32 (F : Nat → Nat) : OL := [
 oV 140 (.loadA 9 (.t 10)),
 oV 141 (.field 1 (.t 12)),
 oV 142 (.load1 (.t 141)),
 oV 143 (.field 0 (.t 12)),
 oV 144 (.load1 (.t 143)),
 oV 145 (.bin .eql false (.t 144) (.k (.int .i64 3))),
 ⟨some 146,.call (F 182) [(.t 140),(.t 142),(.t 145)],none⟩,
 oV 139 (.mov (.t 146)),
 oV 147 (.extr 0 (.t 139)),
 oV 148 (.extr 1 (.t 139)),
 oV 149 (.extr 2 (.t 139)),
 oV 150 (.extr 3 (.t 139)),
 ⟨some 21,.alloc 9 [.nil 3,.int .i64 0,.bool false,.nil 1,.nil 1,.nil 2,.int .i64 0,.nil 4,.nil 5],none⟩,
 ⟨some 22,.alloc 5 [.int .i64 0,.int .i64 0,.int .i64 0,.str [],.int .i64 0],none⟩,
 ⟨none,.stA true 9 (.t 21) (.t 147),none⟩,
 ⟨none,.stA true 5 (.t 22) (.t 148),none⟩,
 oV 23 (.mov (.t 149)),
 oV 24 (.mov (.t 150))]
def c164_33 : OL := [
 oV 151 (.loadA 5 (.t 18)),
 oV 152 (.loadA 5 (.t 22)),
 oV 153 (.eqA true [0,0,0,2,0] (.t 151) (.t 152)),
 oV 154 (.mov (.t 153)),
 oG 155 (.mov (.t 19)) 154 false,
 oG 156 (.mov (.t 23)) 154 false,
 oG 157 (.bin .neq false (.t 155) (.t 156)) 154 false,
 oV 158 (.por (.t 154) (.t 157)),
 oV 159 (.mov (.t 158)),
 oG 160 (.mov (.t 20)) 159 false,
 oG 161 (.mov (.t 24)) 159 false,
 oG 162 (.eqB true (.t 160) (.t 161)) 159 false,
 oV 163 (.por (.t 159) (.t 162))]
def c164_34 : OL := [
 oV 4 (.mov (.k (.bool false)))]
def c164_35 : OL := [
 oV 164 (.loadA 9 (.t 17)),
 oV 165 (.loadA 9 (.t 21)),
 ⟨none,.stA true 9 (.t 5) (.t 164),none⟩,
 ⟨none,.stA true 9 (.t 10) (.t 165),none⟩]
def c164_36 : OL := [
 oV 167 (.bin .eql false (.t 96) (.k (.int .i64 4))),
 oV 166 (.mov (.t 167))]
def c164_37 : OL := [
 oV 25 (.mov (.k (.nil 1)))]
def c164_38 : OL := [
 oV 168 (.field 1 (.t 12)),
 oV 169 (.load1 (.t 168)),
 oV 170 (.mm true (.t 169) [(.k (.int .i64 0))]),
 oV 171 (.mm false (.t 170) [(.k (.int .i64 200))]),
 oV 172 (.mov (.k (.int .i64 0)))]
def c164_39 : OL := [
 oV 173 (.bin .lss false (.t 172) (.t 171))]
def c164_40 : OL := [
 oV 174 (.mov (.t 172)),
 oV 26 (.mov (.t 174))]
def c164_41 : OL := [
 oV 175 (.mov (.t 25)),
 oV 176 (.mov (.t 26)),
 ⟨some 177,.buildS 1 1 [.int .i64 0] [(0,(.t 176))],none⟩,
 ⟨some 178,.app 1 8 (.t 175) (.t 177),none⟩,
 oV 25 (.mov (.t 178))]
def c164_42 : OL := [
 oV 179 (.bin .add true (.t 172) (.k (.int .i64 1))),
 oV 172 (.mov (.t 179))]
def c164_43 (F : Nat → Nat) : OL := [
 oV 180 (.loadA 9 (.t 5)),
 oV 181 (.mov (.t 25)),
 ⟨some 182,.call (F 183) [(.t 180),(.t 181)],none⟩,
 oV 183 (.loadA 9 (.t 10)),
 oV 184 (.mov (.t 25)),
 ⟨some 185,.call (F 184) [(.t 183),(.t 184)],none⟩,
 ⟨none,.stA true 9 (.t 5) (.t 182),none⟩,
 ⟨none,.stA true 9 (.t 10) (.t 185),none⟩]
def c164_44 (F : Nat → Nat) : OL := [
 oV 187 (.loadA 9 (.t 5)),
 ⟨some 188,.call (F 185) [(.t 187)],none⟩,
 oV 186 (.mov (.t 188)),
 oV 189 (.extr 0 (.t 186)),
 oV 190 (.extr 1 (.t 186)),
 ⟨some 27,.alloc 9 [.nil 3,.int .i64 0,.bool false,.nil 1,.nil 1,.nil 2,.int .i64 0,.nil 4,.nil 5],none⟩,
 ⟨none,.stA true 9 (.t 27) (.t 189),none⟩,
 oV 28 (.mov (.t 190))]
def c164_45 (F : Nat → Nat) : OL := [
 oV 191 (.mov (.t 28)),
 oV 192 (.not (.t 191)),
 oV 193 (.mov (.t 192)),
 oG 194 (.loadA 9 (.t 10)) 193 false,
 oG 195 (.loadA 9 (.t 27)) 193 false,
 ⟨some 196,.call (F 186) [(.t 194),(.t 195)],some (193,false)⟩,
 oG 197 (.not (.t 196)) 193 false,
 oV 198 (.por (.t 193) (.t 197)),
 oV 199 (.mov (.t 198)),
 oG 200 (.loadA 9 (.t 5)) 199 false,
 ⟨some 201,.call (F 187) [(.t 200)],some (199,false)⟩,
 oG 202 (.not (.t 201)) 199 false,
 oV 203 (.por (.t 199) (.t 202))]
def c164_46 : OL := [
 oV 4 (.mov (.k (.bool false)))]
def c164_47 : OL := [
 oV 204 (.bin .add true (.t 85) (.k (.int .i64 1))),
 oV 85 (.mov (.t 204))]
def c164_48 (F : Nat → Nat) : OL := [
 ⟨some 205,.call (F 176) [],none⟩,
 oV 4 (.mov (.t 205))]
def law06_SchedActs_c (F : Nat → Nat) : ACode :=
 (.seq
 (.reg c164_0 (some ([0,1],[55,56,76,177,178])))
 (.seq
 (.seq
 (.reg c164_1 (some ([0,1,36],[55,56,76,177,178])))
 (.cond (.t 36)
 (.seq
 (.reg (c164_2 F) (some ([4],[55,56,76,177,178])))
 .ret)
 .skip))
 (.seq
 (.reg (c164_3 F) (some ([0,1,5,6],[5,55,56,76,177,178])))
 (.seq
 (.reg c164_4 (some ([0,1,5,6,7],[5,7,55,56,76,177,178])))
 (.seq
 (.seq
 (.reg c164_5 (some ([0,1,5,6,7,45,46,47],[5,7,55,56,76,177,178])))
 (.block 0
 (.loop
 (.seq
 (.reg c164_6 (some ([0,1,5,6,7,45,46,47,48],[5,7,55,56,76,177,178])))
 (.seq
 (.cond (.t 48)
 .skip
 (.exit 0))
 (.seq
 (.block 1
 (.seq
 (.reg c164_7 (some ([0,1,5,6,7,9,45,46,47],[5,7,55,56,76,177,178])))
 (.reg c164_8 (some ([0,1,5,6,7,45,46,47],[5,7,55,56,76,177,178])))))
 (.reg c164_9 (some ([0,1,5,6,7,45,46,47],[5,7,55,56,76,177,178])))))))))
 (.seq
 (.seq
 (.reg (c164_10 F) (some ([0,1,5,6,7,61],[5,7,55,56,76,177,178])))
 (.cond (.t 61)
 (.seq
 (.reg (c164_11 F) (some ([4],[55,56,76,177,178])))
 .ret)
 .skip))
 (.seq
 (.regD (c164_12 F) [(0,3),(0,4),(1,4),(2,4),(3,4),(3,5),(3,6),(0,8),(1,8),(2,8),(3,8),(4,8),(5,8),(6,8),(7,8)] (some ([1,5,6,10],[5,10,55,56,76,177,178])))
 (.seq
 (.seq
 (.reg c164_13 (some ([1,5,10,82],[5,10,55,56,76,177,178])))
 (.cond (.t 82)
 (.seq
 (.reg c164_14 (some ([4],[55,56,76,177,178])))
 .ret)
 .skip))
 (.seq
 (.seq
 (.reg c164_15 (some ([5,10,83,84,85],[5,10,55,56,76,177,178])))
 (.block 2
 (.loop
 (.seq
 (.reg c164_16 (some ([5,10,83,84,85,86],[5,10,55,56,76,177,178])))
 (.seq
 (.cond (.t 86)
 .skip
 (.exit 2))
 (.seq
 (.block 3
 (.seq
 (.reg c164_17 (some ([5,10,12,83,84,85],[5,10,12,55,56,76,177,178])))
 (.seq
 (.seq
 (.reg c164_18 (some ([5,10,12,83,84,85,93],[5,10,12,55,56,76,177,178])))
 (.cond (.t 93)
 (.seq
 (.reg (c164_19 F) (some ([4],[55,56,76,177,178])))
 .ret)
 .skip))
 (.seq
 (.seq
 (.reg c164_20 (some ([5,10,12,83,84,85,96],[5,10,12,55,56,76,177,178])))
 (.block 4
 (.seq
 (.reg c164_21 (some ([5,10,12,83,84,85,96,97],[5,10,12,55,56,76,177,178])))
 (.cond (.t 97)
 (.seq
 (.reg (c164_22 F) (some ([5,10,12,13,14,83,84,85],[5,10,12,13,55,56,76,177,178])))
 (.seq
 (.reg (c164_23 F) (some ([5,10,13,14,15,16,83,84,85],[5,10,13,15,55,56,76,177,178])))
 (.seq
 (.seq
 (.reg c164_24 (some ([5,10,13,15,83,84,85,115],[5,10,13,15,55,56,76,177,178])))
 (.cond (.t 115)
 (.seq
 (.reg c164_25 (some ([4],[55,56,76,177,178])))
 .ret)
 .skip))
 (.regD c164_26 [(1,2)] (some ([5,10,83,84,85],[5,10,55,56,76,177,178]))))))
 (.seq
 (.reg c164_27 (some ([5,10,12,83,84,85,96,118],[5,10,12,55,56,76,177,178])))
 (.cond (.t 118)
 (.regD (c164_28 F) [(1,2)] (some ([5,10,83,84,85],[5,10,55,56,76,177,178])))
 (.seq
 (.seq
 (.reg c164_29 (some ([5,10,12,83,84,85,96,124],[5,10,12,55,56,76,177,178])))
 (.cond (.t 124)
 .skip
 (.reg c164_30 (some ([5,10,12,83,84,85,96,124],[5,10,12,55,56,76,177,178])))))
 (.cond (.t 124)
 (.seq
 (.reg (c164_31 F) (some ([5,10,12,17,18,19,20,83,84,85],[5,10,12,17,18,55,56,76,177,178])))
 (.seq
 (.reg (c164_32 F) (some ([5,10,17,18,19,20,21,22,23,24,83,84,85],[5,10,17,18,21,22,55,56,76,177,178])))
 (.seq
 (.seq
 (.reg c164_33 (some ([5,10,17,21,83,84,85,163],[5,10,17,21,55,56,76,177,178])))
 (.cond (.t 163)
 (.seq
 (.reg c164_34 (some ([4],[55,56,76,177,178])))
 .ret)
 .skip))
 (.regD c164_35 [(1,2)] (some ([5,10,83,84,85],[5,10,55,56,76,177,178]))))))
 (.seq
 (.reg c164_36 (some ([5,10,12,83,84,85,166],[5,10,12,55,56,76,177,178])))
 (.cond (.t 166)
 (.seq
 (.reg c164_37 (some ([5,10,12,25,83,84,85],[5,10,12,55,56,76,177,178])))
 (.seq
 (.seq
 (.reg c164_38 (some ([5,10,25,83,84,85,171,172],[5,10,55,56,76,177,178])))
 (.block 5
 (.loop
 (.seq
 (.reg c164_39 (some ([5,10,25,83,84,85,171,172,173],[5,10,55,56,76,177,178])))
 (.seq
 (.cond (.t 173)
 .skip
 (.exit 5))
 (.seq
 (.block 6
 (.seq
 (.reg c164_40 (some ([5,10,25,26,83,84,85,171,172],[5,10,55,56,76,177,178])))
 (.reg c164_41 (some ([5,10,25,83,84,85,171,172],[5,10,55,56,76,177,178])))))
 (.reg c164_42 (some ([5,10,25,83,84,85,171,172],[5,10,55,56,76,177,178])))))))))
 (.regD (c164_43 F) [(2,3),(2,4)] (some ([5,10,83,84,85],[5,10,55,56,76,177,178])))))
 .skip))))))))))
 (.seq
 (.reg (c164_44 F) (some ([5,10,27,28,83,84,85],[5,10,27,55,56,76,177,178])))
 (.seq
 (.reg (c164_45 F) (some ([5,10,83,84,85,203],[5,10,55,56,76,177,178])))
 (.cond (.t 203)
 (.seq
 (.reg c164_46 (some ([4],[55,56,76,177,178])))
 .ret)
 .skip)))))))
 (.reg c164_47 (some ([5,10,83,84,85],[5,10,55,56,76,177,178])))))))))
 (.seq
 (.reg (c164_48 F) (some ([4],[55,56,76,177,178])))
 .ret))))))))))
def law06_SchedActs_k (P : Program) (F : Nat → Nat) : Prop := chkFn P (F 164) 2 (law06_SchedActs_c F) [4] = true
def c175_0 : OL := [
 ⟨some 2,.box 4 (.t 0),none⟩,
 ⟨some 4,.alloc 9 [.nil 3,.int .i64 0,.bool false,.nil 1,.nil 1,.nil 2,.int .i64 0,.nil 4,.nil 5],none⟩,
 oV 5 (.mov (.k (.int .i64 0)))]
def c175_1 (F : Nat → Nat) : OL := [
 oV 8 (.loadA 4 (.t 2)),
 ⟨some 9,.call (F 145) [(.t 8)],none⟩,
 oV 10 (.not (.t 9)),
 oV 11 (.mov (.t 10)),
 oG 12 (.field 3 (.t 2)) 11 false,
 oG 13 (.load1 (.t 12)) 11 false,
 oG 14 (.lenS (.t 13)) 11 false,
 oG 15 (.bin .gtr false (.t 14) (.k (.int .i64 0))) 11 false,
 oV 16 (.por (.t 11) (.t 15))]
def c175_2 : OL := [
 oV 17 (.build 9 [.nil 3,.int .i64 0,.bool false,.nil 1,.nil 1,.nil 2,.int .i64 0,.nil 4,.nil 5] []),
 ⟨none,.stA true 9 (.t 4) (.t 17),none⟩,
 oV 5 (.mov (.k (.int .i64 1)))]
def c175_3 (F : Nat → Nat) : OL := [
 oV 19 (.mov (.t 1)),
 ⟨some 20,.call (F 75) [(.t 19)],none⟩,
 oV 18 (.mov (.t 20)),
 oV 21 (.extr 0 (.t 18)),
 oV 22 (.extr 1 (.t 18)),
 ⟨some 6,.alloc 3 [.nil 3,.int .i64 0,.bool false],none⟩,
 ⟨none,.stA true 3 (.t 6) (.t 21),none⟩,
 oV 7 (.mov (.t 22))]
def c175_4 : OL := [
 oV 23 (.mov (.t 7)),
 oV 24 (.bin .neq false (.t 23) (.k (.int .i64 0)))]
def c175_5 : OL := [
 oV 25 (.build 9 [.nil 3,.int .i64 0,.bool false,.nil 1,.nil 1,.nil 2,.int .i64 0,.nil 4,.nil 5] []),
 oV 26 (.mov (.t 7)),
 ⟨none,.stA true 9 (.t 4) (.t 25),none⟩,
 oV 5 (.mov (.t 26))]
def c175_6 : OL := [
 oV 27 (.loadA 3 (.t 6)),
 oV 28 (.mov (.t 1)),
 oV 29 (.lenS (.t 28)),
 ⟨some 30,.mk 1 24 [.nil 5] (.t 29),none⟩,
 oV 31 (.loadA 4 (.t 2)),
 oV 32 (.build 9 [.nil 3,.int .i64 0,.bool false,.nil 1,.nil 1,.nil 2,.int .i64 0,.nil 4,.nil 5] [(0,3,(.t 27)),(3,1,(.t 30)),(4,4,(.t 31))]),
 ⟨none,.stA true 9 (.t 4) (.t 32),none⟩,
 oV 5 (.mov (.k (.int .i64 0)))]
def sched_New_c (F : Nat → Nat) : ACode :=
 (.seq
 (.reg c175_0 (some ([1,2,4],[2,4,30])))
 (.seq
 (.seq
 (.reg (c175_1 F) (some ([1,2,4,16],[2,4,30])))
 (.cond (.t 16)
 (.seq
 (.reg c175_2 (some ([4,5],[4,30])))
 .ret)
 .skip))
 (.seq
 (.reg (c175_3 F) (some ([1,2,4,6,7],[2,4,6,30])))
 (.seq
 (.seq
 (.reg c175_4 (some ([1,2,4,6,7,24],[2,4,6,30])))
 (.cond (.t 24)
 (.seq
 (.reg c175_5 (some ([4,5],[4,30])))
 .ret)
 .skip))
 (.seq
 (.regD c175_6 [(0,3),(3,4)] (some ([4,5],[4,30])))
 .ret)))))
def sched_New_k (P : Program) (F : Nat → Nat) : Prop := chkFn P (F 175) 2 (sched_New_c F) [.loadA 9 (.t 4),5] = true
def c176_0 : OL := [
 oV 0 (.mov (.k (.bool false)))]
def c176_1 (F : Nat → Nat) : OL := [
 ⟨some 13,.call (F 172) [],none⟩,
 ⟨some 14,.buildS 1 2 [.int .i64 0] [(0,(.k (.int .i64 1))),(1,(.k (.int .i64 2)))],none⟩,
 ⟨some 15,.call (F 175) [(.t 13),(.t 14)],none⟩,
 oV 12 (.mov (.t 15)),
 oV 16 (.extr 0 (.t 12)),
 oV 17 (.extr 1 (.t 12)),
 ⟨some 1,.alloc 9 [.nil 3,.int .i64 0,.bool false,.nil 1,.nil 1,.nil 2,.int .i64 0,.nil 4,.nil 5],none⟩,
 ⟨none,.stA true 9 (.t 1) (.t 16),none⟩,
 oV 2 (.mov (.t 17))]
def c176_2 (F : Nat → Nat) : OL := [
 oV 19 (.loadA 9 (.t 1)),
 oV 20 (.build 5 [.int .i64 0,.int .i64 0,.int .i64 0,.str [],.int .i64 0] [(0,1,(.k (.int .i64 1))),(1,1,(.k (.int .i64 1))),(2,1,(.k (.int .i64 3)))]),
 ⟨some 21,.call (F 177) [(.t 19),(.t 20)],none⟩,
 oV 18 (.mov (.t 21)),
 oV 22 (.extr 0 (.t 18)),
 oV 23 (.extr 1 (.t 18)),
 ⟨none,.stA true 9 (.t 1) (.t 22),none⟩,
 oV 3 (.mov (.t 23))]
def c176_3 (F : Nat → Nat) : OL := [
 oV 24 (.loadA 9 (.t 1)),
 ⟨some 25,.call (F 178) [(.t 24)],none⟩,
 ⟨none,.stA true 9 (.t 1) (.t 25),none⟩]
def c176_4 (F : Nat → Nat) : OL := [
 oV 27 (.loadA 9 (.t 1)),
 ⟨some 28,.call (F 179) [(.t 27),(.k (.int .i64 0)),(.k (.bool true))],none⟩,
 oV 26 (.mov (.t 28)),
 oV 29 (.extr 0 (.t 26)),
 oV 30 (.extr 1 (.t 26)),
 oV 31 (.extr 2 (.t 26)),
 oV 32 (.extr 3 (.t 26)),
 ⟨some 4,.alloc 9 [.nil 3,.int .i64 0,.bool false,.nil 1,.nil 1,.nil 2,.int .i64 0,.nil 4,.nil 5],none⟩,
 ⟨some 5,.alloc 5 [.int .i64 0,.int .i64 0,.int .i64 0,.str [],.int .i64 0],none⟩,
 ⟨none,.stA true 9 (.t 4) (.t 29),none⟩,
 ⟨none,.stA true 5 (.t 5) (.t 30),none⟩,
 oV 6 (.mov (.t 31)),
 oV 7 (.mov (.t 32))]
def c176_5 (F : Nat → Nat) : OL := [
 oV 34 (.loadA 9 (.t 4)),
 ⟨some 35,.call (F 179) [(.t 34),(.k (.int .i64 0)),(.k (.bool false))],none⟩,
 oV 33 (.mov (.t 35)),
 oV 36 (.extr 0 (.t 33)),
 oV 37 (.extr 1 (.t 33)),
 oV 38 (.extr 2 (.t 33)),
 oV 39 (.extr 3 (.t 33)),
 ⟨some 8,.alloc 9 [.nil 3,.int .i64 0,.bool false,.nil 1,.nil 1,.nil 2,.int .i64 0,.nil 4,.nil 5],none⟩,
 ⟨some 9,.alloc 5 [.int .i64 0,.int .i64 0,.int .i64 0,.str [],.int .i64 0],none⟩,
 ⟨none,.stA true 9 (.t 8) (.t 36),none⟩,
 ⟨none,.stA true 5 (.t 9) (.t 37),none⟩,
 oV 10 (.mov (.t 38)),
 oV 11 (.mov (.t 39))]
def c176_6 (F : Nat → Nat) : OL := [
 oV 40 (.mov (.t 2)),
 oV 41 (.bin .eql false (.t 40) (.k (.int .i64 0))),
 oV 42 (.mov (.t 41)),
 oG 43 (.mov (.t 3)) 42 true,
 oG 44 (.bin .eql false (.t 43) (.k (.int .i64 0))) 42 true,
 oV 45 (.pand (.t 42) (.t 44)),
 oV 46 (.mov (.t 45)),
 oG 47 (.field 8 (.t 1)) 46 true,
 oG 48 (.load1 (.t 47)) 46 true,
 oG 49 (.lenS (.t 48)) 46 true,
 oG 50 (.bin .eql false (.t 49) (.k (.int .i64 1))) 46 true,
 oV 51 (.pand (.t 46) (.t 50)),
 oV 52 (.mov (.t 51)),
 oG 53 (.mov (.t 7)) 52 true,
 oG 54 (.not (.t 53)) 52 true,
 oV 55 (.pand (.t 52) (.t 54)),
 oV 56 (.mov (.t 55)),
 oG 57 (.field 8 (.t 4)) 56 true,
 oG 58 (.load1 (.t 57)) 56 true,
 oG 59 (.lenS (.t 58)) 56 true,
 oG 60 (.bin .eql false (.t 59) (.k (.int .i64 1))) 56 true,
 oV 61 (.pand (.t 56) (.t 60)),
 oV 62 (.mov (.t 61)),
 oG 63 (.field 0 (.t 9)) 62 true,
 oG 64 (.load1 (.t 63)) 62 true,
 oG 65 (.bin .eql false (.t 64) (.k (.int .i64 1))) 62 true,
 oV 66 (.pand (.t 62) (.t 65)),
 oV 67 (.mov (.t 66)),
 oG 68 (.field 4 (.t 9)) 67 true,
 oG 69 (.load1 (.t 68)) 67 true,
 oG 70 (.bin .eql false (.t 69) (.k (.int .i64 2))) 67 true,
 oV 71 (.pand (.t 67) (.t 70)),
 oV 72 (.mov (.t 71)),
 oG 73 (.field 3 (.t 9)) 72 true,
 oG 74 (.load1 (.t 73)) 72 true,
 oG 75 (.lenT (.t 74)) 72 true,
 oG 76 (.bin .eql false (.t 75) (.k (.int .i64 32))) 72 true,
 oV 77 (.pand (.t 72) (.t 76)),
 oV 78 (.mov (.t 77)),
 oG 79 (.mov (.t 10)) 78 true,
 oG 80 (.bin .eql false (.t 79) (.k (.int .i64 0))) 78 true,
 oV 81 (.pand (.t 78) (.t 80)),
 oV 82 (.mov (.t 81)),
 oG 83 (.mov (.t 11)) 82 true,
 oV 84 (.pand (.t 82) (.t 83)),
 oV 85 (.mov (.t 84)),
 oG 86 (.loadA 9 (.t 1)) 85 true,
 ⟨some 87,.call (F 187) [(.t 86)],some (85,true)⟩,
 oV 88 (.pand (.t 85) (.t 87)),
 oV 0 (.mov (.t 88))]
def law06_awake_c (F : Nat → Nat) : ACode :=
 (.seq
 (.reg c176_0 (some ([],[14])))
 (.seq
 (.reg (c176_1 F) (some ([1,2],[1,14])))
 (.seq
 (.reg (c176_2 F) (some ([1,2,3],[1,14])))
 (.seq
 (.reg (c176_3 F) (some ([1,2,3],[1,14])))
 (.seq
 (.reg (c176_4 F) (some ([1,2,3,4,7],[1,4,14])))
 (.seq
 (.reg (c176_5 F) (some ([1,2,3,4,7,9,10,11],[1,4,9,14])))
 (.seq
 (.reg (c176_6 F) (some ([0],[14])))
 .ret)))))))
def law06_awake_k (P : Program) (F : Nat → Nat) : Prop := chkFn P (F 176) 0 (law06_awake_c F) [0] = true
def c177_0 : OL := [
 ⟨some 2,.box 9 (.t 0),none⟩,
 ⟨some 3,.box 5 (.t 1),none⟩,
 ⟨some 4,.alloc 9 [.nil 3,.int .i64 0,.bool false,.nil 1,.nil 1,.nil 2,.int .i64 0,.nil 4,.nil 5],none⟩,
 oV 5 (.mov (.k (.int .i64 0)))]
def c177_1 (F : Nat → Nat) : OL := [
 oV 8 (.loadA 9 (.t 2)),
 ⟨some 9,.call (F 187) [(.t 8)],none⟩,
 oV 10 (.not (.t 9)),
 oV 11 (.mov (.t 10)),
 oG 12 (.field 4 (.t 3)) 11 false,
 oG 13 (.load1 (.t 12)) 11 false,
 oG 14 (.bin .neq false (.t 13) (.k (.int .i64 0))) 11 false,
 oV 15 (.por (.t 11) (.t 14)),
 oV 16 (.mov (.t 15)),
 oG 17 (.field 0 (.t 3)) 16 false,
 oG 18 (.load1 (.t 17)) 16 false,
 oG 19 (.bin .lss false (.t 18) (.k (.int .i64 0))) 16 false,
 oV 20 (.por (.t 16) (.t 19)),
 oV 21 (.mov (.t 20)),
 oG 22 (.field 0 (.t 3)) 21 false,
 oG 23 (.load1 (.t 22)) 21 false,
 oG 24 (.field 3 (.t 2)) 21 false,
 oG 25 (.load1 (.t 24)) 21 false,
 oG 26 (.lenS (.t 25)) 21 false,
 oG 27 (.bin .geq false (.t 23) (.t 26)) 21 false,
 oV 28 (.por (.t 21) (.t 27)),
 oV 29 (.mov (.t 28)),
 oG 30 (.loadA 5 (.t 3)) 29 false,
 ⟨some 31,.call (F 191) [(.t 30)],some (29,false)⟩,
 oG 32 (.not (.t 31)) 29 false,
 oV 33 (.por (.t 29) (.t 32))]
def c177_2 : OL := [
 oV 34 (.loadA 9 (.t 2)),
 ⟨none,.stA true 9 (.t 4) (.t 34),none⟩,
 oV 5 (.mov (.k (.int .i64 1)))]
def c177_3 : OL := [
 oV 35 (.field 3 (.t 2)),
 oV 36 (.load1 (.t 35)),
 oV 37 (.field 0 (.t 3)),
 oV 38 (.load1 (.t 37)),
 oV 39 (.ixS 1 (.t 36) (.t 38)),
 oV 40 (.load1 (.t 39)),
 oV 41 (.lenS (.t 40)),
 oV 42 (.bin .geq false (.t 41) (.k (.int .i64 200)))]
def c177_4 : OL := [
 oV 43 (.loadA 9 (.t 2)),
 ⟨none,.stA true 9 (.t 4) (.t 43),none⟩,
 oV 5 (.mov (.k (.int .i64 7)))]
def c177_5 (F : Nat → Nat) : OL := [
 oV 45 (.field 0 (.t 2)),
 oV 46 (.loadA 3 (.t 45)),
 oV 47 (.field 0 (.t 3)),
 oV 48 (.load1 (.t 47)),
 oV 49 (.field 1 (.t 3)),
 oV 50 (.load1 (.t 49)),
 ⟨some 51,.call (F 192) [(.t 50)],none⟩,
 ⟨some 52,.call (F 79) [(.t 46),(.t 48),(.t 51)],none⟩,
 oV 44 (.mov (.t 52)),
 oV 53 (.extr 0 (.t 44)),
 oV 54 (.extr 1 (.t 44)),
 ⟨some 6,.alloc 3 [.nil 3,.int .i64 0,.bool false],none⟩,
 ⟨none,.stA true 3 (.t 6) (.t 53),none⟩,
 oV 7 (.mov (.t 54))]
def c177_6 : OL := [
 oV 55 (.mov (.t 7)),
 oV 56 (.bin .neq false (.t 55) (.k (.int .i64 0)))]
def c177_7 : OL := [
 oV 57 (.loadA 9 (.t 2)),
 oV 58 (.mov (.t 7)),
 ⟨none,.stA true 9 (.t 4) (.t 57),none⟩,
 oV 5 (.mov (.t 58))]
def c177_8 : OL := [
 oV 59 (.loadA 3 (.t 6)),
 oV 60 (.field 0 (.t 2)),
 ⟨none,.stA true 3 (.t 60) (.t 59),none⟩]
def c177_9 (F : Nat → Nat) : OL := [
 oV 61 (.field 3 (.t 2)),
 oV 62 (.load1 (.t 61)),
 ⟨some 63,.call (F 193) [(.t 62)],none⟩,
 oV 64 (.field 3 (.t 2)),
 ⟨none,.st1 true (.t 64) (.t 63),none⟩]
def c177_10 (F : Nat → Nat) : OL := [
 oV 65 (.field 3 (.t 2)),
 oV 66 (.load1 (.t 65)),
 oV 67 (.field 0 (.t 3)),
 oV 68 (.load1 (.t 67)),
 oV 69 (.field 3 (.t 2)),
 oV 70 (.load1 (.t 69)),
 oV 71 (.field 0 (.t 3)),
 oV 72 (.load1 (.t 71)),
 oV 73 (.ixS 1 (.t 70) (.t 72)),
 oV 74 (.load1 (.t 73)),
 ⟨some 75,.call (F 194) [(.t 74)],none⟩,
 oV 76 (.loadA 5 (.t 3)),
 ⟨some 77,.buildS 5 1 [.int .i64 0,.int .i64 0,.int .i64 0,.str [],.int .i64 0] [(0,(.t 76))],none⟩,
 ⟨some 78,.app 5 48 (.t 75) (.t 77),none⟩,
 oV 79 (.ixS 1 (.t 66) (.t 68)),
 ⟨none,.st1 false (.t 79) (.t 78),none⟩]
def c177_11 : OL := [
 oV 80 (.loadA 9 (.t 2)),
 ⟨none,.stA true 9 (.t 4) (.t 80),none⟩,
 oV 5 (.mov (.k (.int .i64 0)))]
def sched_Ask_c (F : Nat → Nat) : ACode :=
 (.seq
 (.reg c177_0 (some ([2,3,4],[2,3,4,77,78,1063,1075])))
 (.seq
 (.seq
 (.reg (c177_1 F) (some ([2,3,4,33],[2,3,4,77,78,1063,1075])))
 (.cond (.t 33)
 (.seq
 (.reg c177_2 (some ([4,5],[4,77,78,1063,1075])))
 .ret)
 .skip))
 (.seq
 (.seq
 (.reg c177_3 (some ([2,3,4,42],[2,3,4,77,78,1063,1075])))
 (.cond (.t 42)
 (.seq
 (.reg c177_4 (some ([4,5],[4,77,78,1063,1075])))
 .ret)
 .skip))
 (.seq
 (.regD (c177_5 F) [(0,6),(1,6),(2,6),(3,6),(0,11),(1,11),(2,11),(3,11),(4,11),(5,11),(6,11),(7,11),(8,11),(9,11),(10,11),(10,12)] (some ([2,3,4,6,7],[2,3,4,6,77,78,1063,1075])))
 (.seq
 (.seq
 (.reg c177_6 (some ([2,3,4,6,7,56],[2,3,4,6,77,78,1063,1075])))
 (.cond (.t 56)
 (.seq
 (.reg c177_7 (some ([4,5],[4,77,78,1063,1075])))
 .ret)
 .skip))
 (.seq
 (.reg c177_8 (some ([2,3,4],[2,3,4,77,78,1063,1075])))
 (.seq
 (.reg (c177_9 F) (some ([2,3,4],[2,3,4,77,78,1063,1075])))
 (.seq
 (.regD (c177_10 F) [(0,10),(1,10),(2,10),(3,10),(10,11),(0,12),(1,12),(2,12),(3,12),(4,12),(5,12),(6,12),(7,12),(8,12),(9,12),(10,12),(0,13),(1,13),(2,13),(3,13)] (some ([2,4],[2,4,77,78,1063,1075])))
 (.seq
 (.reg c177_11 (some ([4,5],[4,77,78,1063,1075])))
 .ret)))))))))
def sched_Ask_k (P : Program) (F : Nat → Nat) : Prop := chkFn P (F 177) 2 (sched_Ask_c F) [.loadA 9 (.t 4),5] = true
def c178_0 : OL := [
 ⟨some 1,.box 9 (.t 0),none⟩,
 ⟨some 2,.alloc 9 [.nil 3,.int .i64 0,.bool false,.nil 1,.nil 1,.nil 2,.int .i64 0,.nil 4,.nil 5],none⟩]
def c178_1 (F : Nat → Nat) : OL := [
 oV 8 (.loadA 9 (.t 1)),
 ⟨some 9,.call (F 187) [(.t 8)],none⟩,
 oV 10 (.not (.t 9))]
def c178_2 : OL := [
 oV 11 (.loadA 9 (.t 1)),
 ⟨none,.stA true 9 (.t 2) (.t 11),none⟩]
def c178_3 (F : Nat → Nat) : OL := [
 oV 12 (.field 3 (.t 1)),
 oV 13 (.load1 (.t 12)),
 ⟨some 14,.call (F 193) [(.t 13)],none⟩,
 oV 15 (.field 3 (.t 1)),
 ⟨none,.st1 true (.t 15) (.t 14),none⟩]
def c178_4 (F : Nat → Nat) : OL := [
 oV 16 (.field 8 (.t 1)),
 oV 17 (.load1 (.t 16)),
 ⟨some 18,.call (F 194) [(.t 17)],none⟩,
 oV 19 (.field 8 (.t 1)),
 ⟨none,.st1 true (.t 19) (.t 18),none⟩]
def c178_5 : OL := [
 oV 20 (.field 4 (.t 1)),
 oV 21 (.field 3 (.t 20)),
 oV 22 (.load1 (.t 21)),
 oV 23 (.lenS (.t 22)),
 oV 24 (.bin .lss false (.t 23) (.k (.int .i64 4))),
 oV 25 (.mov (.t 24)),
 oG 26 (.field 4 (.t 1)) 25 true,
 oG 27 (.field 2 (.t 26)) 25 true,
 oG 28 (.load1 (.t 27)) 25 true,
 oG 29 (.bin .lss false (.t 28) (.k (.int .i64 2147483647))) 25 true,
 oV 30 (.pand (.t 25) (.t 29))]
def c178_6 (F : Nat → Nat) : OL := [
 oV 32 (.field 0 (.t 1)),
 oV 33 (.loadA 3 (.t 32)),
 ⟨some 34,.call (F 86) [(.t 33)],none⟩,
 oV 31 (.mov (.t 34)),
 oV 35 (.extr 0 (.t 31)),
 oV 36 (.extr 1 (.t 31)),
 oV 37 (.extr 2 (.t 31)),
 oV 38 (.extr 3 (.t 31)),
 ⟨some 3,.alloc 3 [.nil 3,.int .i64 0,.bool false],none⟩,
 ⟨none,.stA true 3 (.t 3) (.t 35),none⟩,
 oV 4 (.mov (.t 36)),
 oV 5 (.mov (.t 37)),
 oV 6 (.mov (.t 38))]
def c178_7 : OL := [
 oV 39 (.mov (.t 6)),
 oV 40 (.not (.t 39))]
def c178_8 : OL := [
 oV 41 (.loadA 3 (.t 3)),
 oV 42 (.field 0 (.t 1)),
 ⟨none,.stA true 3 (.t 42) (.t 41),none⟩]
def c178_9 : OL := [
 oV 43 (.field 3 (.t 1)),
 oV 44 (.load1 (.t 43)),
 oV 45 (.mov (.t 4)),
 oV 46 (.ixS 1 (.t 44) (.t 45)),
 oV 47 (.load1 (.t 46)),
 oV 48 (.ixS 5 (.t 47) (.k (.int .i64 0))),
 oV 49 (.loadA 5 (.t 48)),
 ⟨some 7,.alloc 5 [.int .i64 0,.int .i64 0,.int .i64 0,.str [],.int .i64 0],none⟩,
 ⟨none,.stA true 5 (.t 7) (.t 49),none⟩]
def c178_10 (F : Nat → Nat) : OL := [
 oV 50 (.field 3 (.t 1)),
 oV 51 (.load1 (.t 50)),
 oV 52 (.mov (.t 4)),
 oV 53 (.field 3 (.t 1)),
 oV 54 (.load1 (.t 53)),
 oV 55 (.mov (.t 4)),
 oV 56 (.ixS 1 (.t 54) (.t 55)),
 oV 57 (.load1 (.t 56)),
 oV 58 (.slS 5 (.t 57) (some (.k (.int .i64 1))) none),
 ⟨some 59,.call (F 194) [(.t 58)],none⟩,
 oV 60 (.ixS 1 (.t 51) (.t 52)),
 ⟨none,.st1 false (.t 60) (.t 59),none⟩]
def c178_11 : OL := [
 oV 61 (.field 4 (.t 7)),
 ⟨none,.st1 true (.t 61) (.k (.int .i64 1)),none⟩]
def c178_12 (F : Nat → Nat) : OL := [
 oV 63 (.field 4 (.t 1)),
 oV 64 (.loadA 4 (.t 63)),
 oV 65 (.field 1 (.t 7)),
 oV 66 (.load1 (.t 65)),
 oV 67 (.field 2 (.t 7)),
 oV 68 (.load1 (.t 67)),
 oV 69 (.field 3 (.t 7)),
 oV 70 (.load1 (.t 69)),
 ⟨some 71,.call (F 168) [(.t 64),(.t 66),(.t 68),(.t 70)],none⟩,
 oV 62 (.mov (.t 71)),
 oV 72 (.extr 0 (.t 62)),
 oV 73 (.extr 1 (.t 62)),
 oV 74 (.extr 2 (.t 62)),
 oV 75 (.field 4 (.t 1)),
 ⟨none,.stA true 4 (.t 75) (.t 72),none⟩]
def c178_13 : OL := [
 oV 76 (.field 8 (.t 1)),
 oV 77 (.load1 (.t 76)),
 oV 78 (.loadA 5 (.t 7)),
 ⟨some 79,.buildS 5 1 [.int .i64 0,.int .i64 0,.int .i64 0,.str [],.int .i64 0] [(0,(.t 78))],none⟩,
 ⟨some 80,.app 5 48 (.t 77) (.t 79),none⟩,
 oV 81 (.field 8 (.t 1)),
 ⟨none,.st1 true (.t 81) (.t 80),none⟩]
def c178_14 : OL := [
 oV 82 (.loadA 9 (.t 1)),
 ⟨none,.stA true 9 (.t 2) (.t 82),none⟩]
def sched_Pump_c (F : Nat → Nat) : ACode :=
 (.seq
 (.reg c178_0 (some ([1,2],[1,2,79,80,1014,1018,1059])))
 (.seq
 (.seq
 (.reg (c178_1 F) (some ([1,2,10],[1,2,79,80,1014,1018,1059])))
 (.cond (.t 10)
 (.seq
 (.reg c178_2 (some ([2],[2,79,80,1014,1018,1059])))
 .ret)
 .skip))
 (.seq
 (.reg (c178_3 F) (some ([1,2],[1,2,79,80,1014,1018,1059])))
 (.seq
 (.reg (c178_4 F) (some ([1,2],[1,2,79,80,1014,1018,1059])))
 (.seq
 (.block 0
 (.loop
 (.seq
 (.seq
 (.reg c178_5 (some ([1,2,30],[1,2,79,80,1014,1018,1059])))
 (.cond (.t 30)
 .skip
 (.exit 0)))
 (.block 1
 (.seq
 (.reg (c178_6 F) (some ([1,2,3,4,6],[1,2,3,79,80,1014,1018,1059])))
 (.seq
 (.seq
 (.reg c178_7 (some ([1,2,3,4,40],[1,2,3,79,80,1014,1018,1059])))
 (.cond (.t 40)
 (.exit 0)
 .skip))
 (.seq
 (.reg c178_8 (some ([1,2,4],[1,2,79,80,1014,1018,1059])))
 (.seq
 (.reg c178_9 (some ([1,2,4,7],[1,2,7,79,80,1014,1018,1059])))
 (.seq
 (.regD (c178_10 F) [(0,9),(1,9),(2,9)] (some ([1,2,7],[1,2,7,79,80,1014,1018,1059])))
 (.seq
 (.reg c178_11 (some ([1,2,7],[1,2,7,79,80,1014,1018,1059])))
 (.seq
 (.reg (c178_12 F) (some ([1,2,7],[1,2,7,79,80,1014,1018,1059])))
 (.reg c178_13 (some ([1,2],[1,2,79,80,1014,1018,1059]))))))))))))))
 (.seq
 (.reg c178_14 (some ([2],[2,79,80,1014,1018,1059])))
 .ret))))))
def sched_Pump_k (P : Program) (F : Nat → Nat) : Prop := chkFn P (F 178) 1 (sched_Pump_c F) [.loadA 9 (.t 2)] = true
def c179_0 : OL := [
 ⟨some 3,.box 9 (.t 0),none⟩,
 ⟨some 6,.alloc 9 [.nil 3,.int .i64 0,.bool false,.nil 1,.nil 1,.nil 2,.int .i64 0,.nil 4,.nil 5],none⟩,
 ⟨some 7,.alloc 5 [.int .i64 0,.int .i64 0,.int .i64 0,.str [],.int .i64 0],none⟩,
 oV 8 (.mov (.k (.int .i64 0))),
 oV 9 (.mov (.k (.bool false)))]
def c179_1 (F : Nat → Nat) : OL := [
 oV 14 (.loadA 9 (.t 3)),
 ⟨some 15,.call (F 187) [(.t 14)],none⟩,
 oV 16 (.not (.t 15)),
 oV 17 (.mov (.t 16)),
 oG 18 (.mov (.t 1)) 17 false,
 oG 19 (.bin .lss false (.t 18) (.k (.int .i64 0))) 17 false,
 oV 20 (.por (.t 17) (.t 19)),
 oV 21 (.mov (.t 20)),
 oG 22 (.mov (.t 1)) 21 false,
 oG 23 (.field 8 (.t 3)) 21 false,
 oG 24 (.load1 (.t 23)) 21 false,
 oG 25 (.lenS (.t 24)) 21 false,
 oG 26 (.bin .geq false (.t 22) (.t 25)) 21 false,
 oV 27 (.por (.t 21) (.t 26))]
def c179_2 : OL := [
 oV 28 (.loadA 9 (.t 3)),
 oV 29 (.build 5 [.int .i64 0,.int .i64 0,.int .i64 0,.str [],.int .i64 0] []),
 ⟨none,.stA true 9 (.t 6) (.t 28),none⟩,
 ⟨none,.stA true 5 (.t 7) (.t 29),none⟩,
 oV 8 (.mov (.k (.int .i64 1))),
 oV 9 (.mov (.k (.bool false)))]
def c179_3 : OL := [
 oV 30 (.field 8 (.t 3)),
 oV 31 (.load1 (.t 30)),
 oV 32 (.mov (.t 1)),
 oV 33 (.ixS 5 (.t 31) (.t 32)),
 oV 34 (.loadA 5 (.t 33)),
 ⟨some 10,.alloc 5 [.int .i64 0,.int .i64 0,.int .i64 0,.str [],.int .i64 0],none⟩,
 ⟨none,.stA true 5 (.t 10) (.t 34),none⟩]
def c179_4 (F : Nat → Nat) : OL := [
 oV 36 (.field 4 (.t 3)),
 oV 37 (.loadA 4 (.t 36)),
 oV 38 (.mov (.t 1)),
 oV 39 (.mov (.t 2)),
 ⟨some 40,.call (F 149) [(.t 37),(.t 38),(.t 39)],none⟩,
 oV 35 (.mov (.t 40)),
 oV 41 (.extr 0 (.t 35)),
 oV 42 (.extr 1 (.t 35)),
 oV 43 (.extr 2 (.t 35)),
 ⟨some 11,.alloc 4 [.nil 1,.nil 2,.int .i64 0,.nil 4],none⟩,
 ⟨some 12,.alloc 4 [.int .i64 0,.int .i64 0,.int .i64 0,.str []],none⟩,
 ⟨none,.stA true 4 (.t 11) (.t 41),none⟩,
 ⟨none,.stA true 4 (.t 12) (.t 42),none⟩,
 oV 13 (.mov (.t 43))]
def c179_5 : OL := [
 oV 44 (.loadA 4 (.t 11)),
 oV 45 (.field 4 (.t 3)),
 ⟨none,.stA true 4 (.t 45) (.t 44),none⟩]
def c179_6 (F : Nat → Nat) : OL := [
 oV 46 (.field 8 (.t 3)),
 oV 47 (.load1 (.t 46)),
 oV 48 (.mov (.t 1)),
 oV 49 (.slS 5 (.t 47) none (some (.t 48))),
 oV 50 (.field 8 (.t 3)),
 oV 51 (.load1 (.t 50)),
 oV 52 (.mov (.t 1)),
 oV 53 (.bin .add true (.t 52) (.k (.int .i64 1))),
 oV 54 (.slS 5 (.t 51) (some (.t 53)) none),
 ⟨some 55,.buildS 1 2 [.nil 5] [(0,(.t 49)),(1,(.t 54))],none⟩,
 ⟨some 56,.call (F 152) [(.t 55)],none⟩,
 oV 57 (.field 8 (.t 3)),
 ⟨none,.st1 true (.t 57) (.t 56),none⟩]
def c179_7 : OL := [
 oV 58 (.mov (.t 13)),
 oV 59 (.bin .eql false (.t 58) (.k (.int .i64 8))),
 oV 60 (.mov (.t 59)),
 oG 61 (.field 4 (.t 10)) 60 true,
 oG 62 (.load1 (.t 61)) 60 true,
 oG 63 (.bin .lss false (.t 62) (.k (.int .i64 3))) 60 true,
 oV 64 (.pand (.t 60) (.t 63)),
 oV 65 (.mov (.t 64)),
 oG 66 (.field 4 (.t 3)) 65 true,
 oG 67 (.field 2 (.t 66)) 65 true,
 oG 68 (.load1 (.t 67)) 65 true,
 oG 69 (.bin .lss false (.t 68) (.k (.int .i64 2147483647))) 65 true,
 oV 70 (.pand (.t 65) (.t 69))]
def c179_8 (F : Nat → Nat) : OL := [
 oV 72 (.field 4 (.t 3)),
 oV 73 (.loadA 4 (.t 72)),
 oV 74 (.field 1 (.t 10)),
 oV 75 (.load1 (.t 74)),
 oV 76 (.field 2 (.t 10)),
 oV 77 (.load1 (.t 76)),
 oV 78 (.field 3 (.t 10)),
 oV 79 (.load1 (.t 78)),
 ⟨some 80,.call (F 168) [(.t 73),(.t 75),(.t 77),(.t 79)],none⟩,
 oV 71 (.mov (.t 80)),
 oV 81 (.extr 0 (.t 71)),
 oV 82 (.extr 1 (.t 71)),
 oV 83 (.extr 2 (.t 71)),
 oV 84 (.field 4 (.t 3)),
 ⟨none,.stA true 4 (.t 84) (.t 81),none⟩]
def c179_9 : OL := [
 oV 85 (.field 4 (.t 10)),
 oV 86 (.load1 (.t 85)),
 oV 87 (.bin .add true (.t 86) (.k (.int .i64 1))),
 oV 88 (.field 4 (.t 10)),
 ⟨none,.st1 true (.t 88) (.t 87),none⟩]
def c179_10 : OL := [
 oV 89 (.field 8 (.t 3)),
 oV 90 (.load1 (.t 89)),
 oV 91 (.loadA 5 (.t 10)),
 ⟨some 92,.buildS 5 1 [.int .i64 0,.int .i64 0,.int .i64 0,.str [],.int .i64 0] [(0,(.t 91))],none⟩,
 ⟨some 93,.app 5 48 (.t 90) (.t 92),none⟩,
 oV 94 (.field 8 (.t 3)),
 ⟨none,.st1 true (.t 94) (.t 93),none⟩]
def c179_11 : OL := [
 oV 95 (.loadA 9 (.t 3)),
 oV 96 (.build 5 [.int .i64 0,.int .i64 0,.int .i64 0,.str [],.int .i64 0] []),
 ⟨none,.stA true 9 (.t 6) (.t 95),none⟩,
 ⟨none,.stA true 5 (.t 7) (.t 96),none⟩,
 oV 8 (.mov (.k (.int .i64 0))),
 oV 9 (.mov (.k (.bool false)))]
def c179_12 : OL := [
 oV 97 (.field 3 (.t 12)),
 oV 98 (.load1 (.t 97)),
 oV 99 (.field 3 (.t 10)),
 ⟨none,.st1 true (.t 99) (.t 98),none⟩]
def c179_13 : OL := [
 oV 100 (.loadA 9 (.t 3)),
 oV 101 (.loadA 5 (.t 10)),
 oV 102 (.mov (.t 13)),
 ⟨none,.stA true 9 (.t 6) (.t 100),none⟩,
 ⟨none,.stA true 5 (.t 7) (.t 101),none⟩,
 oV 8 (.mov (.t 102)),
 oV 9 (.mov (.k (.bool true)))]
def sched_Done_c (F : Nat → Nat) : ACode :=
 (.seq
 (.reg c179_0 (some ([1,2,3,6,7],[3,6,7,55,92,93,1056])))
 (.seq
 (.seq
 (.reg (c179_1 F) (some ([1,2,3,6,7,27],[3,6,7,55,92,93,1056])))
 (.cond (.t 27)
 (.seq
 (.reg c179_2 (some ([6,7,8,9],[6,7,55,92,93,1056])))
 .ret)
 .skip))
 (.seq
 (.reg c179_3 (some ([1,2,3,6,7,10],[3,6,7,10,55,92,93,1056])))
 (.seq
 (.reg (c179_4 F) (some ([1,3,6,7,10,11,12,13],[3,6,7,10,11,12,55,92,93,1056])))
 (.seq
 (.reg c179_5 (some ([1,3,6,7,10,12,13],[3,6,7,10,12,55,92,93,1056])))
 (.seq
 (.regD (c179_6 F) [] (some ([3,6,7,10,12,13],[3,6,7,10,12,55,92,93,1056])))
 (.seq
 (.seq
 (.reg c179_7 (some ([3,6,7,10,12,13,70],[3,6,7,10,12,55,92,93,1056])))
 (.cond (.t 70)
 (.seq
 (.reg (c179_8 F) (some ([3,6,7,10],[3,6,7,10,55,92,93,1056])))
 (.seq
 (.reg c179_9 (some ([3,6,7,10],[3,6,7,10,55,92,93,1056])))
 (.seq
 (.reg c179_10 (some ([3,6,7],[3,6,7,55,92,93,1056])))
 (.seq
 (.reg c179_11 (some ([6,7,8,9],[6,7,55,92,93,1056])))
 .ret))))
 .skip))
 (.seq
 (.reg c179_12 (some ([3,6,7,10,13],[3,6,7,10,55,92,93,1056])))
 (.seq
 (.regD c179_13 [(1,3),(2,3),(2,4)] (some ([6,7,8,9],[6,7,55,92,93,1056])))
 .ret)))))))))
def sched_Done_k (P : Program) (F : Nat → Nat) : Prop := chkFn P (F 179) 3 (sched_Done_c F) [.loadA 9 (.t 6),.loadA 5 (.t 7),8,9] = true
def c180_0 : OL := [
 ⟨some 2,.box 9 (.t 0),none⟩,
 ⟨some 3,.box 5 (.t 1),none⟩,
 ⟨some 4,.alloc 9 [.nil 3,.int .i64 0,.bool false,.nil 1,.nil 1,.nil 2,.int .i64 0,.nil 4,.nil 5],none⟩,
 oV 5 (.mov (.k (.int .i64 0)))]
def c180_1 (F : Nat → Nat) : OL := [
 oV 11 (.loadA 9 (.t 2)),
 ⟨some 12,.call (F 195) [(.t 11)],none⟩,
 oV 13 (.not (.t 12)),
 oV 14 (.mov (.t 13)),
 oG 15 (.field 4 (.t 3)) 14 false,
 oG 16 (.load1 (.t 15)) 14 false,
 oG 17 (.bin .neq false (.t 16) (.k (.int .i64 0))) 14 false,
 oV 18 (.por (.t 14) (.t 17)),
 oV 19 (.mov (.t 18)),
 oG 20 (.field 0 (.t 3)) 19 false,
 oG 21 (.load1 (.t 20)) 19 false,
 oG 22 (.bin .lss false (.t 21) (.k (.int .i64 0))) 19 false,
 oV 23 (.por (.t 19) (.t 22)),
 oV 24 (.mov (.t 23)),
 oG 25 (.field 0 (.t 3)) 24 false,
 oG 26 (.load1 (.t 25)) 24 false,
 oG 27 (.field 3 (.t 2)) 24 false,
 oG 28 (.load1 (.t 27)) 24 false,
 oG 29 (.lenS (.t 28)) 24 false,
 oG 30 (.bin .geq false (.t 26) (.t 29)) 24 false,
 oV 31 (.por (.t 24) (.t 30)),
 oV 32 (.mov (.t 31)),
 oG 33 (.field 1 (.t 3)) 32 false,
 oG 34 (.load1 (.t 33)) 32 false,
 oG 35 (.field 2 (.t 3)) 32 false,
 oG 36 (.load1 (.t 35)) 32 false,
 oG 37 (.field 3 (.t 3)) 32 false,
 oG 38 (.load1 (.t 37)) 32 false,
 ⟨some 39,.call (F 190) [(.t 34),(.t 36),(.t 38)],some (32,false)⟩,
 oG 40 (.not (.t 39)) 32 false,
 oV 41 (.por (.t 32) (.t 40))]
def c180_2 : OL := [
 oV 42 (.loadA 9 (.t 2)),
 ⟨none,.stA true 9 (.t 4) (.t 42),none⟩,
 oV 5 (.mov (.k (.int .i64 1)))]
def c180_3 : OL := [
 oV 43 (.field 3 (.t 2)),
 oV 44 (.load1 (.t 43)),
 oV 45 (.field 0 (.t 3)),
 oV 46 (.load1 (.t 45)),
 oV 47 (.ixS 1 (.t 44) (.t 46)),
 oV 48 (.load1 (.t 47)),
 oV 49 (.lenS (.t 48)),
 oV 50 (.bin .eql false (.t 49) (.k (.int .i64 200)))]
def c180_4 : OL := [
 oV 51 (.loadA 9 (.t 2)),
 ⟨none,.stA true 9 (.t 4) (.t 51),none⟩,
 oV 5 (.mov (.k (.int .i64 7)))]
def c180_5 : OL := [
 oV 52 (.field 4 (.t 2)),
 oV 53 (.loadA 4 (.t 52)),
 oV 54 (.field 8 (.t 2)),
 oV 55 (.load1 (.t 54)),
 oV 56 (.build 9 [.nil 3,.int .i64 0,.bool false,.nil 1,.nil 1,.nil 2,.int .i64 0,.nil 4,.nil 5] [(4,4,(.t 53)),(8,1,(.t 55))]),
 ⟨some 6,.alloc 9 [.nil 3,.int .i64 0,.bool false,.nil 1,.nil 1,.nil 2,.int .i64 0,.nil 4,.nil 5],none⟩,
 ⟨none,.stA true 9 (.t 6) (.t 56),none⟩]
def c180_6 : OL := [
 oV 57 (.field 0 (.t 2)),
 oV 58 (.field 1 (.t 57)),
 oV 59 (.load1 (.t 58)),
 oV 60 (.field 0 (.t 2)),
 oV 61 (.field 2 (.t 60)),
 oV 62 (.load1 (.t 61)),
 oV 63 (.field 0 (.t 6)),
 oV 64 (.field 1 (.t 63)),
 ⟨none,.st1 true (.t 64) (.t 59),none⟩,
 oV 65 (.field 0 (.t 6)),
 oV 66 (.field 2 (.t 65)),
 ⟨none,.st1 true (.t 66) (.t 62),none⟩]
def c180_7 : OL := [
 oV 7 (.mov (.k (.int .i64 0)))]
def c180_8 : OL := [
 oV 67 (.mov (.t 7)),
 oV 68 (.field 3 (.t 2)),
 oV 69 (.load1 (.t 68)),
 oV 70 (.lenS (.t 69)),
 oV 71 (.bin .lss false (.t 67) (.t 70))]
def c180_10 : OL := [
 oV 74 (.field 0 (.t 2)),
 oV 75 (.field 0 (.t 74)),
 oV 76 (.load1 (.t 75)),
 oV 77 (.mov (.t 7)),
 oV 78 (.ixS 3 (.t 76) (.t 77)),
 oV 79 (.loadA 3 (.t 78)),
 ⟨some 8,.alloc 3 [.int .i64 0,.int .i64 0,.nil 1],none⟩,
 ⟨none,.stA true 3 (.t 8) (.t 79),none⟩]
def c180_11 : OL := [
 oV 80 (.field 3 (.t 2)),
 oV 81 (.load1 (.t 80)),
 oV 82 (.mov (.t 7)),
 oV 83 (.ixS 1 (.t 81) (.t 82)),
 oV 84 (.load1 (.t 83)),
 oV 9 (.mov (.t 84))]
def c180_12 : OL := [
 oV 85 (.mov (.t 7)),
 oV 86 (.field 0 (.t 3)),
 oV 87 (.load1 (.t 86)),
 oV 88 (.bin .eql false (.t 85) (.t 87))]
def c180_13 : OL := [
 oV 10 (.mov (.k (.nil 1)))]
def c180_14 : OL := [
 oV 89 (.mov (.t 10)),
 oV 90 (.field 2 (.t 8)),
 oV 91 (.load1 (.t 90)),
 ⟨some 92,.app 1 8 (.t 89) (.t 91),none⟩,
 oV 10 (.mov (.t 92))]
def c180_15 (F : Nat → Nat) : OL := [
 oV 93 (.mov (.t 10)),
 oV 94 (.field 1 (.t 3)),
 oV 95 (.load1 (.t 94)),
 ⟨some 96,.call (F 196) [(.t 95)],none⟩,
 ⟨some 97,.buildS 1 1 [.int .i64 0] [(0,(.t 96))],none⟩,
 ⟨some 98,.app 1 8 (.t 93) (.t 97),none⟩,
 oV 99 (.field 2 (.t 8)),
 ⟨none,.st1 true (.t 99) (.t 98),none⟩]
def c180_16 (F : Nat → Nat) : OL := [
 oV 100 (.mov (.t 9)),
 oV 101 (.loadA 5 (.t 3)),
 ⟨some 102,.call (F 197) [(.t 100),(.t 101)],none⟩,
 oV 9 (.mov (.t 102))]
def c180_17 : OL := [
 oV 103 (.field 0 (.t 6)),
 oV 104 (.field 0 (.t 103)),
 oV 105 (.load1 (.t 104)),
 oV 106 (.loadA 3 (.t 8)),
 ⟨some 107,.buildS 3 1 [.int .i64 0,.int .i64 0,.nil 1] [(0,(.t 106))],none⟩,
 ⟨some 108,.app 3 40 (.t 105) (.t 107),none⟩,
 oV 109 (.field 0 (.t 6)),
 oV 110 (.field 0 (.t 109)),
 ⟨none,.st1 true (.t 110) (.t 108),none⟩]
def c180_18 : OL := [
 oV 111 (.field 3 (.t 6)),
 oV 112 (.load1 (.t 111)),
 oV 113 (.mov (.t 9)),
 ⟨some 114,.buildS 1 1 [.nil 5] [(0,(.t 113))],none⟩,
 ⟨some 115,.app 1 24 (.t 112) (.t 114),none⟩,
 oV 116 (.field 3 (.t 6)),
 ⟨none,.st1 true (.t 116) (.t 115),none⟩]
def c180_9 : OL := [
 oV 72 (.mov (.t 7)),
 oV 73 (.bin .add true (.t 72) (.k (.int .i64 1))),
 oV 7 (.mov (.t 73))]
def c180_19 : OL := [
 oV 117 (.loadA 9 (.t 6)),
 ⟨none,.stA true 9 (.t 4) (.t 117),none⟩,
 oV 5 (.mov (.k (.int .i64 0)))]
def ref06_Ask_c (F : Nat → Nat) : ACode :=
 (.seq
 (.reg c180_0 (some ([2,3,4],[2,3,4,92,97,98,107,108,114,115])))
 (.seq
 (.seq
 (.reg (c180_1 F) (some ([2,3,4,41],[2,3,4,92,97,98,107,108,114,115])))
 (.cond (.t 41)
 (.seq
 (.reg c180_2 (some ([4,5],[4,92,97,98,107,108,114,115])))
 .ret)
 .skip))
 (.seq
 (.seq
 (.reg c180_3 (some ([2,3,4,50],[2,3,4,92,97,98,107,108,114,115])))
 (.cond (.t 50)
 (.seq
 (.reg c180_4 (some ([4,5],[4,92,97,98,107,108,114,115])))
 .ret)
 .skip))
 (.seq
 (.reg c180_5 (some ([2,3,4,6],[2,3,4,6,92,97,98,107,108,114,115])))
 (.seq
 (.regD c180_6 [(3,8),(4,8),(5,8)] (some ([2,3,4,6],[2,3,4,6,92,97,98,107,108,114,115])))
 (.seq
 (.seq
 (.reg c180_7 (some ([2,3,4,6,7],[2,3,4,6,92,97,98,107,108,114,115])))
 (.block 0
 (.loop
 (.seq
 (.seq
 (.reg c180_8 (some ([2,3,4,6,7,71],[2,3,4,6,92,97,98,107,108,114,115])))
 (.cond (.t 71)
 .skip
 (.exit 0)))
 (.seq
 (.block 1
 (.seq
 (.reg c180_10 (some ([2,3,4,6,7,8],[2,3,4,6,8,92,97,98,107,108,114,115])))
 (.seq
 (.reg c180_11 (some ([2,3,4,6,7,8,9],[2,3,4,6,8,92,97,98,107,108,114,115])))
 (.seq
 (.seq
 (.reg c180_12 (some ([2,3,4,6,7,8,9,88],[2,3,4,6,8,92,97,98,107,108,114,115])))
 (.cond (.t 88)
 (.seq
 (.reg c180_13 (some ([2,3,4,6,7,8,9,10],[2,3,4,6,8,92,97,98,107,108,114,115])))
 (.seq
 (.reg c180_14 (some ([2,3,4,6,7,8,9,10],[2,3,4,6,8,92,97,98,107,108,114,115])))
 (.seq
 (.reg (c180_15 F) (some ([2,3,4,6,7,8,9],[2,3,4,6,8,92,97,98,107,108,114,115])))
 (.reg (c180_16 F) (some ([2,3,4,6,7,8,9],[2,3,4,6,8,92,97,98,107,108,114,115]))))))
 .skip))
 (.seq
 (.reg c180_17 (some ([2,3,4,6,7,9],[2,3,4,6,92,97,98,107,108,114,115])))
 (.reg c180_18 (some ([2,3,4,6,7],[2,3,4,6,92,97,98,107,108,114,115]))))))))
 (.reg c180_9 (some ([2,3,4,6,7],[2,3,4,6,92,97,98,107,108,114,115]))))))))
 (.seq
 (.reg c180_19 (some ([4,5],[4,92,97,98,107,108,114,115])))
 .ret)))))))
def ref06_Ask_k (P : Program) (F : Nat → Nat) : Prop := chkFn P (F 180) 2 (ref06_Ask_c F) [.loadA 9 (.t 4),5] = true
def c181_0 : OL := [
 ⟨some 1,.box 9 (.t 0),none⟩,
 ⟨some 2,.alloc 9 [.nil 3,.int .i64 0,.bool false,.nil 1,.nil 1,.nil 2,.int .i64 0,.nil 4,.nil 5],none⟩]
def c181_1 (F : Nat → Nat) : OL := [
 oV 9 (.loadA 9 (.t 1)),
 ⟨some 10,.call (F 195) [(.t 9)],none⟩,
 oV 11 (.not (.t 10))]
def c181_2 : OL := [
 oV 12 (.loadA 9 (.t 1)),
 ⟨none,.stA true 9 (.t 2) (.t 12),none⟩]
def c181_3 : OL := [
 oV 3 (.mov (.k (.int .i64 0)))]
def c181_4 (F : Nat → Nat) : OL := [
 oV 13 (.mov (.t 3)),
 oV 14 (.bin .lss false (.t 13) (.k (.int .i64 4))),
 oV 15 (.mov (.t 14)),
 oG 16 (.field 8 (.t 1)) 15 true,
 oG 17 (.load1 (.t 16)) 15 true,
 oG 18 (.lenS (.t 17)) 15 true,
 oG 19 (.bin .lss false (.t 18) (.k (.int .i64 4))) 15 true,
 oV 20 (.pand (.t 15) (.t 19)),
 oV 21 (.mov (.t 20)),
 oG 22 (.field 4 (.t 1)) 21 true,
 oG 23 (.field 2 (.t 22)) 21 true,
 oG 24 (.load1 (.t 23)) 21 true,
 oG 25 (.bin .lss false (.t 24) (.k (.int .i64 2147483647))) 21 true,
 oV 26 (.pand (.t 21) (.t 25)),
 oV 27 (.mov (.t 26)),
 oG 28 (.field 0 (.t 1)) 27 true,
 oG 29 (.loadA 3 (.t 28)) 27 true,
 ⟨some 30,.call (F 198) [(.t 29)],some (27,true)⟩,
 oV 31 (.pand (.t 27) (.t 30))]
def c181_6 (F : Nat → Nat) : OL := [
 oV 35 (.field 0 (.t 1)),
 oV 36 (.loadA 3 (.t 35)),
 ⟨some 37,.call (F 199) [(.t 36)],none⟩,
 oV 34 (.mov (.t 37)),
 oV 38 (.extr 0 (.t 34)),
 oV 39 (.extr 1 (.t 34)),
 oV 40 (.extr 2 (.t 34)),
 ⟨some 4,.alloc 3 [.nil 3,.int .i64 0,.bool false],none⟩,
 ⟨none,.stA true 3 (.t 4) (.t 38),none⟩,
 oV 5 (.mov (.t 39)),
 oV 6 (.mov (.t 40))]
def c181_7 : OL := [
 oV 7 (.mov (.k (.nil 1)))]
def c181_8 : OL := [
 oV 8 (.mov (.k (.int .i64 0)))]
def c181_9 : OL := [
 oV 41 (.mov (.t 8)),
 oV 42 (.field 3 (.t 1)),
 oV 43 (.load1 (.t 42)),
 oV 44 (.lenS (.t 43)),
 oV 45 (.bin .lss false (.t 41) (.t 44))]
def c181_11 : OL := [
 oV 48 (.mov (.t 8)),
 oV 49 (.mov (.t 5)),
 oV 50 (.bin .eql false (.t 48) (.t 49))]
def c181_12 (F : Nat → Nat) : OL := [
 oV 51 (.mov (.t 7)),
 oV 52 (.field 3 (.t 1)),
 oV 53 (.load1 (.t 52)),
 oV 54 (.mov (.t 8)),
 oV 55 (.ixS 1 (.t 53) (.t 54)),
 oV 56 (.load1 (.t 55)),
 ⟨some 57,.call (F 200) [(.t 56),(.k (.int .i64 0))],none⟩,
 ⟨some 58,.buildS 1 1 [.nil 5] [(0,(.t 57))],none⟩,
 ⟨some 59,.app 1 24 (.t 51) (.t 58),none⟩,
 oV 7 (.mov (.t 59))]
def c181_13 : OL := [
 oV 60 (.mov (.t 7)),
 oV 61 (.field 3 (.t 1)),
 oV 62 (.load1 (.t 61)),
 oV 63 (.mov (.t 8)),
 oV 64 (.ixS 1 (.t 62) (.t 63)),
 oV 65 (.load1 (.t 64)),
 ⟨some 66,.buildS 1 1 [.nil 5] [(0,(.t 65))],none⟩,
 ⟨some 67,.app 1 24 (.t 60) (.t 66),none⟩,
 oV 7 (.mov (.t 67))]
def c181_10 : OL := [
 oV 46 (.mov (.t 8)),
 oV 47 (.bin .add true (.t 46) (.k (.int .i64 1))),
 oV 8 (.mov (.t 47))]
def c181_14 (F : Nat → Nat) : OL := [
 oV 68 (.loadA 3 (.t 4)),
 oV 69 (.mov (.t 7)),
 oV 70 (.field 4 (.t 1)),
 oV 71 (.loadA 4 (.t 70)),
 oV 72 (.field 8 (.t 1)),
 oV 73 (.load1 (.t 72)),
 oV 74 (.build 9 [.nil 3,.int .i64 0,.bool false,.nil 1,.nil 1,.nil 2,.int .i64 0,.nil 4,.nil 5] [(0,3,(.t 68)),(3,1,(.t 69)),(4,4,(.t 71)),(8,1,(.t 73))]),
 oV 75 (.field 3 (.t 1)),
 oV 76 (.load1 (.t 75)),
 oV 77 (.mov (.t 5)),
 oV 78 (.ixS 1 (.t 76) (.t 77)),
 oV 79 (.load1 (.t 78)),
 oV 80 (.ixS 5 (.t 79) (.k (.int .i64 0))),
 oV 81 (.loadA 5 (.t 80)),
 ⟨some 82,.call (F 201) [(.t 74),(.t 81)],none⟩,
 ⟨none,.stA true 9 (.t 1) (.t 82),none⟩]
def c181_5 : OL := [
 oV 32 (.mov (.t 3)),
 oV 33 (.bin .add true (.t 32) (.k (.int .i64 1))),
 oV 3 (.mov (.t 33))]
def c181_15 : OL := [
 oV 83 (.loadA 9 (.t 1)),
 ⟨none,.stA true 9 (.t 2) (.t 83),none⟩]
def ref06_Pump_c (F : Nat → Nat) : ACode :=
 (.seq
 (.reg c181_0 (some ([1,2],[1,2,58,59,66,67])))
 (.seq
 (.seq
 (.reg (c181_1 F) (some ([1,2,11],[1,2,58,59,66,67])))
 (.cond (.t 11)
 (.seq
 (.reg c181_2 (some ([2],[2,58,59,66,67])))
 .ret)
 .skip))
 (.seq
 (.seq
 (.reg c181_3 (some ([1,2,3],[1,2,58,59,66,67])))
 (.block 0
 (.loop
 (.seq
 (.seq
 (.reg (c181_4 F) (some ([1,2,3,31],[1,2,58,59,66,67])))
 (.cond (.t 31)
 .skip
 (.exit 0)))
 (.seq
 (.block 1
 (.seq
 (.reg (c181_6 F) (some ([1,2,3,4,5],[1,2,4,58,59,66,67])))
 (.seq
 (.reg c181_7 (some ([1,2,3,4,5,7],[1,2,4,58,59,66,67])))
 (.seq
 (.seq
 (.reg c181_8 (some ([1,2,3,4,5,7,8],[1,2,4,58,59,66,67])))
 (.block 2
 (.loop
 (.seq
 (.seq
 (.reg c181_9 (some ([1,2,3,4,5,7,8,45],[1,2,4,58,59,66,67])))
 (.cond (.t 45)
 .skip
 (.exit 2)))
 (.seq
 (.block 3
 (.seq
 (.reg c181_11 (some ([1,2,3,4,5,7,8,50],[1,2,4,58,59,66,67])))
 (.cond (.t 50)
 (.reg (c181_12 F) (some ([1,2,3,4,5,7,8],[1,2,4,58,59,66,67])))
 (.reg c181_13 (some ([1,2,3,4,5,7,8],[1,2,4,58,59,66,67]))))))
 (.reg c181_10 (some ([1,2,3,4,5,7,8],[1,2,4,58,59,66,67]))))))))
 (.regD (c181_14 F) [] (some ([1,2,3],[1,2,58,59,66,67])))))))
 (.reg c181_5 (some ([1,2,3],[1,2,58,59,66,67]))))))))
 (.seq
 (.reg c181_15 (some ([2],[2,58,59,66,67])))
 .ret))))
def ref06_Pump_k (P : Program) (F : Nat → Nat) : Prop := chkFn P (F 181) 1 (ref06_Pump_c F) [.loadA 9 (.t 2)] = true
def c182_0 : OL := [
 ⟨some 3,.box 9 (.t 0),none⟩,
 ⟨some 6,.alloc 9 [.nil 3,.int .i64 0,.bool false,.nil 1,.nil 1,.nil 2,.int .i64 0,.nil 4,.nil 5],none⟩,
 ⟨some 7,.alloc 5 [.int .i64 0,.int .i64 0,.int .i64 0,.str [],.int .i64 0],none⟩,
 oV 8 (.mov (.k (.int .i64 0))),
 oV 9 (.mov (.k (.bool false)))]
def c182_1 (F : Nat → Nat) : OL := [
 oV 15 (.loadA 9 (.t 3)),
 ⟨some 16,.call (F 195) [(.t 15)],none⟩,
 oV 17 (.not (.t 16)),
 oV 18 (.mov (.t 17)),
 oG 19 (.mov (.t 1)) 18 false,
 oG 20 (.bin .lss false (.t 19) (.k (.int .i64 0))) 18 false,
 oV 21 (.por (.t 18) (.t 20)),
 oV 22 (.mov (.t 21)),
 oG 23 (.mov (.t 1)) 22 false,
 oG 24 (.field 8 (.t 3)) 22 false,
 oG 25 (.load1 (.t 24)) 22 false,
 oG 26 (.lenS (.t 25)) 22 false,
 oG 27 (.bin .geq false (.t 23) (.t 26)) 22 false,
 oV 28 (.por (.t 22) (.t 27))]
def c182_2 : OL := [
 oV 29 (.loadA 9 (.t 3)),
 oV 30 (.build 5 [.int .i64 0,.int .i64 0,.int .i64 0,.str [],.int .i64 0] []),
 ⟨none,.stA true 9 (.t 6) (.t 29),none⟩,
 ⟨none,.stA true 5 (.t 7) (.t 30),none⟩,
 oV 8 (.mov (.k (.int .i64 1))),
 oV 9 (.mov (.k (.bool false)))]
def c182_3 : OL := [
 oV 31 (.field 8 (.t 3)),
 oV 32 (.load1 (.t 31)),
 oV 33 (.mov (.t 1)),
 oV 34 (.ixS 5 (.t 32) (.t 33)),
 oV 35 (.loadA 5 (.t 34)),
 ⟨some 10,.alloc 5 [.int .i64 0,.int .i64 0,.int .i64 0,.str [],.int .i64 0],none⟩,
 ⟨none,.stA true 5 (.t 10) (.t 35),none⟩]
def c182_4 (F : Nat → Nat) : OL := [
 oV 37 (.field 4 (.t 3)),
 oV 38 (.loadA 4 (.t 37)),
 oV 39 (.mov (.t 1)),
 oV 40 (.mov (.t 2)),
 ⟨some 41,.call (F 173) [(.t 38),(.t 39),(.t 40)],none⟩,
 oV 36 (.mov (.t 41)),
 oV 42 (.extr 0 (.t 36)),
 oV 43 (.extr 1 (.t 36)),
 oV 44 (.extr 2 (.t 36)),
 ⟨some 11,.alloc 4 [.nil 1,.nil 2,.int .i64 0,.nil 4],none⟩,
 ⟨some 12,.alloc 4 [.int .i64 0,.int .i64 0,.int .i64 0,.str []],none⟩,
 ⟨none,.stA true 4 (.t 11) (.t 42),none⟩,
 ⟨none,.stA true 4 (.t 12) (.t 43),none⟩,
 oV 13 (.mov (.t 44))]
def c182_5 (F : Nat → Nat) : OL := [
 oV 45 (.field 0 (.t 3)),
 oV 46 (.loadA 3 (.t 45)),
 oV 47 (.field 3 (.t 3)),
 oV 48 (.load1 (.t 47)),
 oV 49 (.loadA 4 (.t 11)),
 oV 50 (.field 8 (.t 3)),
 oV 51 (.load1 (.t 50)),
 oV 52 (.mov (.t 1)),
 ⟨some 53,.call (F 200) [(.t 51),(.t 52)],none⟩,
 oV 54 (.build 9 [.nil 3,.int .i64 0,.bool false,.nil 1,.nil 1,.nil 2,.int .i64 0,.nil 4,.nil 5] [(0,3,(.t 46)),(3,1,(.t 48)),(4,4,(.t 49)),(8,1,(.t 53))]),
 ⟨some 14,.alloc 9 [.nil 3,.int .i64 0,.bool false,.nil 1,.nil 1,.nil 2,.int .i64 0,.nil 4,.nil 5],none⟩,
 ⟨none,.stA true 9 (.t 14) (.t 54),none⟩]
def c182_6 : OL := [
 oV 55 (.mov (.t 13)),
 oV 56 (.bin .eql false (.t 55) (.k (.int .i64 8))),
 oV 57 (.mov (.t 56)),
 oG 58 (.field 4 (.t 10)) 57 true,
 oG 59 (.load1 (.t 58)) 57 true,
 oG 60 (.bin .lss false (.t 59) (.k (.int .i64 3))) 57 true,
 oV 61 (.pand (.t 57) (.t 60)),
 oV 62 (.mov (.t 61)),
 oG 63 (.field 2 (.t 11)) 62 true,
 oG 64 (.load1 (.t 63)) 62 true,
 oG 65 (.bin .lss false (.t 64) (.k (.int .i64 2147483647))) 62 true,
 oV 66 (.pand (.t 62) (.t 65))]
def c182_7 (F : Nat → Nat) : OL := [
 oV 67 (.loadA 9 (.t 14)),
 oV 68 (.loadA 5 (.t 10)),
 ⟨some 69,.call (F 201) [(.t 67),(.t 68)],none⟩,
 oV 70 (.build 5 [.int .i64 0,.int .i64 0,.int .i64 0,.str [],.int .i64 0] []),
 ⟨none,.stA true 9 (.t 6) (.t 69),none⟩,
 ⟨none,.stA true 5 (.t 7) (.t 70),none⟩,
 oV 8 (.mov (.k (.int .i64 0))),
 oV 9 (.mov (.k (.bool false)))]
def c182_8 : OL := [
 oV 71 (.field 3 (.t 12)),
 oV 72 (.load1 (.t 71)),
 oV 73 (.field 3 (.t 10)),
 ⟨none,.st1 true (.t 73) (.t 72),none⟩]
def c182_9 : OL := [
 oV 74 (.loadA 9 (.t 14)),
 oV 75 (.loadA 5 (.t 10)),
 oV 76 (.mov (.t 13)),
 ⟨none,.stA true 9 (.t 6) (.t 74),none⟩,
 ⟨none,.stA true 5 (.t 7) (.t 75),none⟩,
 oV 8 (.mov (.t 76)),
 oV 9 (.mov (.k (.bool true)))]
def ref06_Done_c (F : Nat → Nat) : ACode :=
 (.seq
 (.reg c182_0 (some ([1,2,3,6,7],[3,6,7])))
 (.seq
 (.seq
 (.reg (c182_1 F) (some ([1,2,3,6,7,28],[3,6,7])))
 (.cond (.t 28)
 (.seq
 (.reg c182_2 (some ([6,7,8,9],[6,7])))
 .ret)
 .skip))
 (.seq
 (.reg c182_3 (some ([1,2,3,6,7,10],[3,6,7,10])))
 (.seq
 (.reg (c182_4 F) (some ([1,3,6,7,10,11,12,13],[3,6,7,10,11,12])))
 (.seq
 (.regD (c182_5 F) [(0,8),(1,8),(2,8),(3,8),(4,8),(0,10),(1,10),(2,10),(3,10),(4,10),(5,10),(6,10),(7,10),(8,10),(9,10)] (some ([6,7,10,11,12,13,14],[6,7,10,11,12,14])))
 (.seq
 (.seq
 (.reg c182_6 (some ([6,7,10,12,13,14,66],[6,7,10,12,14])))
 (.cond (.t 66)
 (.seq
 (.reg (c182_7 F) (some ([6,7,8,9],[6,7])))
 .ret)
 .skip))
 (.seq
 (.reg c182_8 (some ([6,7,10,13,14],[6,7,10,14])))
 (.seq
 (.regD c182_9 [(1,3),(2,3),(2,4)] (some ([6,7,8,9],[6,7])))
 .ret))))))))
def ref06_Done_k (P : Program) (F : Nat → Nat) : Prop := chkFn P (F 182) 3 (ref06_Done_c F) [.loadA 9 (.t 6),.loadA 5 (.t 7),8,9] = true
def c183_0 : OL := [
 ⟨some 2,.box 9 (.t 0),none⟩,
 ⟨some 4,.alloc 9 [.nil 3,.int .i64 0,.bool false,.nil 1,.nil 1,.nil 2,.int .i64 0,.nil 4,.nil 5],none⟩]
def c183_1 (F : Nat → Nat) : OL := [
 oV 10 (.loadA 9 (.t 2)),
 ⟨some 11,.call (F 187) [(.t 10)],none⟩,
 oV 12 (.not (.t 11))]
def c183_2 : OL := [
 oV 13 (.loadA 9 (.t 2)),
 ⟨none,.stA true 9 (.t 4) (.t 13),none⟩]
def c183_3 : OL := [
 oV 14 (.field 0 (.t 2)),
 oV 15 (.field 0 (.t 14)),
 oV 16 (.load1 (.t 15)),
 oV 17 (.lenS (.t 16)),
 ⟨some 18,.mk 1 8 [.int .i64 0] (.t 17),none⟩,
 oV 5 (.mov (.t 18))]
def c183_4 : OL := [
 oV 19 (.field 0 (.t 2)),
 oV 20 (.field 0 (.t 19)),
 oV 21 (.load1 (.t 20)),
 oV 22 (.lenS (.t 21)),
 oV 23 (.mov (.k (.int .i64 0)))]
def c183_5 : OL := [
 oV 24 (.bin .lss false (.t 23) (.t 22))]
def c183_6 : OL := [
 oV 25 (.mov (.t 23)),
 oV 26 (.ixS 3 (.t 21) (.t 23)),
 oV 27 (.loadA 3 (.t 26)),
 ⟨some 7,.alloc 3 [.int .i64 0,.int .i64 0,.nil 1],none⟩,
 oV 6 (.mov (.t 25)),
 ⟨none,.stA true 3 (.t 7) (.t 27),none⟩]
def c183_7 : OL := [
 oV 28 (.mov (.t 5)),
 oV 29 (.mov (.t 6)),
 oV 30 (.field 0 (.t 7)),
 oV 31 (.load1 (.t 30)),
 oV 32 (.ixS 1 (.t 28) (.t 29)),
 ⟨none,.st1 false (.t 32) (.t 31),none⟩]
def c183_8 : OL := [
 oV 33 (.bin .add true (.t 23) (.k (.int .i64 1))),
 oV 23 (.mov (.t 33))]
def c183_9 (F : Nat → Nat) : OL := [
 oV 35 (.mov (.t 5)),
 ⟨some 36,.call (F 75) [(.t 35)],none⟩,
 oV 34 (.mov (.t 36)),
 oV 37 (.extr 0 (.t 34)),
 oV 38 (.extr 1 (.t 34)),
 ⟨some 8,.alloc 3 [.nil 3,.int .i64 0,.bool false],none⟩,
 ⟨none,.stA true 3 (.t 8) (.t 37),none⟩,
 oV 9 (.mov (.t 38))]
def c183_10 (F : Nat → Nat) : OL := [
 oV 39 (.loadA 3 (.t 8)),
 oV 40 (.mov (.t 5)),
 oV 41 (.lenS (.t 40)),
 ⟨some 42,.mk 1 24 [.nil 5] (.t 41),none⟩,
 oV 43 (.field 4 (.t 2)),
 oV 44 (.loadA 4 (.t 43)),
 oV 45 (.mov (.t 1)),
 ⟨some 46,.call (F 174) [(.t 44),(.t 45)],none⟩,
 oV 47 (.build 9 [.nil 3,.int .i64 0,.bool false,.nil 1,.nil 1,.nil 2,.int .i64 0,.nil 4,.nil 5] [(0,3,(.t 39)),(3,1,(.t 42)),(4,4,(.t 46))]),
 ⟨none,.stA true 9 (.t 4) (.t 47),none⟩]
def sched_Crash_c (F : Nat → Nat) : ACode :=
 (.seq
 (.reg c183_0 (some ([1,2,4],[2,4,18,42])))
 (.seq
 (.seq
 (.reg (c183_1 F) (some ([1,2,4,12],[2,4,18,42])))
 (.cond (.t 12)
 (.seq
 (.reg c183_2 (some ([4],[4,18,42])))
 .ret)
 .skip))
 (.seq
 (.reg c183_3 (some ([1,2,4,5],[2,4,18,42])))
 (.seq
 (.seq
 (.reg c183_4 (some ([1,2,4,5,21,22,23],[2,4,18,42])))
 (.block 0
 (.loop
 (.seq
 (.reg c183_5 (some ([1,2,4,5,21,22,23,24],[2,4,18,42])))
 (.seq
 (.cond (.t 24)
 .skip
 (.exit 0))
 (.seq
 (.block 1
 (.seq
 (.reg c183_6 (some ([1,2,4,5,6,7,21,22,23],[2,4,7,18,42])))
 (.reg c183_7 (some ([1,2,4,5,21,22,23],[2,4,18,42])))))
 (.reg c183_8 (some ([1,2,4,5,21,22,23],[2,4,18,42])))))))))
 (.seq
 (.reg (c183_9 F) (some ([1,2,4,5,8],[2,4,8,18,42])))
 (.seq
 (.regD (c183_10 F) [(0,3),(3,4),(3,5),(3,6),(0,7),(1,7),(2,7),(3,7)] (some ([4],[4,18,42])))
 .ret))))))
def sched_Crash_k (P : Program) (F : Nat → Nat) : Prop := chkFn P (F 183) 2 (sched_Crash_c F) [.loadA 9 (.t 4)] = true
def c184_0 : OL := [
 ⟨some 2,.box 9 (.t 0),none⟩,
 ⟨some 4,.alloc 9 [.nil 3,.int .i64 0,.bool false,.nil 1,.nil 1,.nil 2,.int .i64 0,.nil 4,.nil 5],none⟩]
def c184_1 (F : Nat → Nat) : OL := [
 oV 7 (.field 4 (.t 2)),
 oV 8 (.field 0 (.t 7)),
 oV 9 (.loadA 2 (.t 8)),
 oV 10 (.mov (.t 1)),
 ⟨some 11,.call (F 43) [(.t 9),(.t 10)],none⟩,
 oV 12 (.field 4 (.t 2)),
 oV 13 (.field 2 (.t 12)),
 oV 14 (.load1 (.t 13)),
 oV 15 (.build 4 [.nil 1,.nil 2,.int .i64 0,.nil 4] [(0,2,(.t 11)),(2,1,(.t 14))]),
 oV 16 (.build 9 [.nil 3,.int .i64 0,.bool false,.nil 1,.nil 1,.nil 2,.int .i64 0,.nil 4,.nil 5] [(4,4,(.t 15))]),
 ⟨some 5,.alloc 9 [.nil 3,.int .i64 0,.bool false,.nil 1,.nil 1,.nil 2,.int .i64 0,.nil 4,.nil 5],none⟩,
 ⟨none,.stA true 9 (.t 5) (.t 16),none⟩]
def c184_2 : OL := [
 oV 6 (.mov (.k (.int .i64 0)))]
def c184_3 : OL := [
 oV 17 (.mov (.t 6)),
 oV 18 (.field 3 (.t 2)),
 oV 19 (.load1 (.t 18)),
 oV 20 (.lenS (.t 19)),
 oV 21 (.bin .lss false (.t 17) (.t 20))]
def c184_5 : OL := [
 oV 24 (.field 0 (.t 5)),
 oV 25 (.field 0 (.t 24)),
 oV 26 (.load1 (.t 25)),
 oV 27 (.field 0 (.t 2)),
 oV 28 (.field 0 (.t 27)),
 oV 29 (.load1 (.t 28)),
 oV 30 (.mov (.t 6)),
 oV 31 (.ixS 3 (.t 29) (.t 30)),
 oV 32 (.field 0 (.t 31)),
 oV 33 (.load1 (.t 32)),
 oV 34 (.build 3 [.int .i64 0,.int .i64 0,.nil 1] [(0,1,(.t 33))]),
 ⟨some 35,.buildS 3 1 [.int .i64 0,.int .i64 0,.nil 1] [(0,(.t 34))],none⟩,
 ⟨some 36,.app 3 40 (.t 26) (.t 35),none⟩,
 oV 37 (.field 0 (.t 5)),
 oV 38 (.field 0 (.t 37)),
 ⟨none,.st1 true (.t 38) (.t 36),none⟩]
def c184_6 : OL := [
 oV 39 (.field 3 (.t 5)),
 oV 40 (.load1 (.t 39)),
 ⟨some 41,.buildS 1 1 [.nil 5] [(0,(.k (.nil 5)))],none⟩,
 ⟨some 42,.app 1 24 (.t 40) (.t 41),none⟩,
 oV 43 (.field 3 (.t 5)),
 ⟨none,.st1 true (.t 43) (.t 42),none⟩]
def c184_4 : OL := [
 oV 22 (.mov (.t 6)),
 oV 23 (.bin .add true (.t 22) (.k (.int .i64 1))),
 oV 6 (.mov (.t 23))]
def c184_7 : OL := [
 oV 44 (.loadA 9 (.t 5)),
 ⟨none,.stA true 9 (.t 4) (.t 44),none⟩]
def ref06_Crash_c (F : Nat → Nat) : ACode :=
 (.seq
 (.reg c184_0 (some ([1,2,4],[2,4,35,36,41,42])))
 (.seq
 (.regD (c184_1 F) [(4,5),(4,6),(4,7),(0,10),(1,10),(2,10),(3,10),(4,10),(5,10),(6,10),(7,10),(8,10),(9,10)] (some ([2,4,5],[2,4,5,35,36,41,42])))
 (.seq
 (.seq
 (.reg c184_2 (some ([2,4,5,6],[2,4,5,35,36,41,42])))
 (.block 0
 (.loop
 (.seq
 (.seq
 (.reg c184_3 (some ([2,4,5,6,21],[2,4,5,35,36,41,42])))
 (.cond (.t 21)
 .skip
 (.exit 0)))
 (.seq
 (.block 1
 (.seq
 (.regD c184_5 [(0,11),(1,11),(2,11)] (some ([2,4,5,6],[2,4,5,35,36,41,42])))
 (.reg c184_6 (some ([2,4,5,6],[2,4,5,35,36,41,42])))))
 (.reg c184_4 (some ([2,4,5,6],[2,4,5,35,36,41,42]))))))))
 (.seq
 (.reg c184_7 (some ([4],[4,35,36,41,42])))
 .ret))))
def ref06_Crash_k (P : Program) (F : Nat → Nat) : Prop := chkFn P (F 184) 2 (ref06_Crash_c F) [.loadA 9 (.t 4)] = true
def c185_0 : OL := [
 ⟨some 1,.box 9 (.t 0),none⟩,
 ⟨some 2,.alloc 9 [.nil 3,.int .i64 0,.bool false,.nil 1,.nil 1,.nil 2,.int .i64 0,.nil 4,.nil 5],none⟩,
 oV 3 (.mov (.k (.bool false)))]
def c185_1 : OL := [
 oV 18 (.field 4 (.t 1)),
 oV 19 (.field 0 (.t 18)),
 oV 20 (.loadA 2 (.t 19)),
 oV 21 (.field 4 (.t 1)),
 oV 22 (.field 2 (.t 21)),
 oV 23 (.load1 (.t 22)),
 oV 24 (.build 4 [.nil 1,.nil 2,.int .i64 0,.nil 4] [(0,2,(.t 20)),(2,1,(.t 23))]),
 oV 25 (.field 0 (.t 1)),
 oV 26 (.field 1 (.t 25)),
 oV 27 (.load1 (.t 26)),
 oV 28 (.field 0 (.t 1)),
 oV 29 (.field 2 (.t 28)),
 oV 30 (.load1 (.t 29)),
 oV 31 (.build 3 [.nil 3,.int .i64 0,.bool false] [(1,1,(.t 27)),(2,1,(.t 30))]),
 oV 32 (.build 9 [.nil 3,.int .i64 0,.bool false,.nil 1,.nil 1,.nil 2,.int .i64 0,.nil 4,.nil 5] [(4,4,(.t 24)),(0,3,(.t 31))]),
 ⟨some 4,.alloc 9 [.nil 3,.int .i64 0,.bool false,.nil 1,.nil 1,.nil 2,.int .i64 0,.nil 4,.nil 5],none⟩,
 ⟨none,.stA true 9 (.t 4) (.t 32),none⟩]
def c185_2 (F : Nat → Nat) : OL := [
 oV 33 (.field 4 (.t 1)),
 oV 34 (.field 0 (.t 33)),
 oV 35 (.loadA 2 (.t 34)),
 ⟨some 36,.call (F 31) [(.t 35)],none⟩,
 oV 37 (.not (.t 36)),
 oV 38 (.mov (.t 37)),
 oG 39 (.field 4 (.t 1)) 38 false,
 oG 40 (.field 3 (.t 39)) 38 false,
 oG 41 (.load1 (.t 40)) 38 false,
 oG 42 (.lenS (.t 41)) 38 false,
 oG 43 (.bin .gtr false (.t 42) (.k (.int .i64 20))) 38 false,
 oV 44 (.por (.t 38) (.t 43)),
 oV 45 (.mov (.t 44)),
 oG 46 (.field 0 (.t 1)) 45 false,
 oG 47 (.field 0 (.t 46)) 45 false,
 oG 48 (.load1 (.t 47)) 45 false,
 oG 49 (.lenS (.t 48)) 45 false,
 oG 50 (.bin .gtr false (.t 49) (.k (.int .i64 20))) 45 false,
 oV 51 (.por (.t 45) (.t 50)),
 oV 52 (.mov (.t 51)),
 oG 53 (.field 3 (.t 1)) 52 false,
 oG 54 (.load1 (.t 53)) 52 false,
 oG 55 (.lenS (.t 54)) 52 false,
 oG 56 (.bin .gtr false (.t 55) (.k (.int .i64 20))) 52 false,
 oV 57 (.por (.t 52) (.t 56)),
 oV 58 (.mov (.t 57)),
 oG 59 (.field 8 (.t 1)) 58 false,
 oG 60 (.load1 (.t 59)) 58 false,
 oG 61 (.lenS (.t 60)) 58 false,
 oG 62 (.bin .gtr false (.t 61) (.k (.int .i64 20))) 58 false,
 oV 63 (.por (.t 58) (.t 62))]
def c185_3 : OL := [
 oV 64 (.loadA 9 (.t 4)),
 ⟨none,.stA true 9 (.t 2) (.t 64),none⟩,
 oV 3 (.mov (.k (.bool false)))]
def c185_4 : OL := [
 oV 5 (.mov (.k (.nil 4)))]
def c185_5 : OL := [
 oV 65 (.field 4 (.t 1)),
 oV 66 (.field 3 (.t 65)),
 oV 67 (.load1 (.t 66)),
 oV 68 (.lenS (.t 67)),
 oV 69 (.mov (.k (.int .i64 0)))]
def c185_6 : OL := [
 oV 70 (.bin .lss false (.t 69) (.t 68))]
def c185_7 : OL := [
 oV 71 (.ixS 4 (.t 67) (.t 69)),
 oV 72 (.loadA 4 (.t 71)),
 ⟨some 7,.alloc 4 [.int .i64 0,.int .i64 0,.int .i64 0,.str []],none⟩,
 ⟨none,.stA true 4 (.t 7) (.t 72),none⟩]
def c185_8 : OL := [
 oV 73 (.mov (.t 5)),
 oV 74 (.loadA 4 (.t 7)),
 ⟨some 75,.buildS 4 1 [.int .i64 0,.int .i64 0,.int .i64 0,.str []] [(0,(.t 74))],none⟩,
 ⟨some 76,.app 4 40 (.t 73) (.t 75),none⟩,
 oV 5 (.mov (.t 76))]
def c185_9 : OL := [
 oV 77 (.bin .add true (.t 69) (.k (.int .i64 1))),
 oV 69 (.mov (.t 77))]
def c185_10 : OL := [
 oV 8 (.mov (.k (.nil 3)))]
def c185_11 : OL := [
 oV 78 (.field 0 (.t 1)),
 oV 79 (.field 0 (.t 78)),
 oV 80 (.load1 (.t 79)),
 oV 81 (.lenS (.t 80)),
 oV 82 (.mov (.k (.int .i64 0)))]
def c185_12 : OL := [
 oV 83 (.bin .lss false (.t 82) (.t 81))]
def c185_13 : OL := [
 oV 84 (.ixS 3 (.t 80) (.t 82)),
 oV 85 (.loadA 3 (.t 84)),
 ⟨some 10,.alloc 3 [.int .i64 0,.int .i64 0,.nil 1],none⟩,
 ⟨none,.stA true 3 (.t 10) (.t 85),none⟩]
def c185_14 : OL := [
 oV 86 (.field 2 (.t 10)),
 oV 87 (.load1 (.t 86)),
 oV 88 (.lenS (.t 87)),
 oV 89 (.bin .gtr false (.t 88) (.k (.int .i64 220)))]
def c185_15 : OL := [
 oV 90 (.loadA 9 (.t 4)),
 ⟨none,.stA true 9 (.t 2) (.t 90),none⟩,
 oV 3 (.mov (.k (.bool false)))]
def c185_16 : OL := [
 oV 91 (.mov (.t 8)),
 oV 92 (.loadA 3 (.t 10)),
 ⟨some 93,.buildS 3 1 [.int .i64 0,.int .i64 0,.nil 1] [(0,(.t 92))],none⟩,
 ⟨some 94,.app 3 40 (.t 91) (.t 93),none⟩,
 oV 8 (.mov (.t 94))]
def c185_17 : OL := [
 oV 95 (.bin .add true (.t 82) (.k (.int .i64 1))),
 oV 82 (.mov (.t 95))]
def c185_18 : OL := [
 oV 96 (.mov (.t 5)),
 oV 97 (.mov (.t 8)),
 oV 98 (.field 4 (.t 4)),
 oV 99 (.field 3 (.t 98)),
 ⟨none,.st1 true (.t 99) (.t 96),none⟩,
 oV 100 (.field 0 (.t 4)),
 oV 101 (.field 0 (.t 100)),
 ⟨none,.st1 true (.t 101) (.t 97),none⟩]
def c185_19 : OL := [
 oV 102 (.field 3 (.t 1)),
 oV 103 (.load1 (.t 102)),
 oV 104 (.lenS (.t 103)),
 oV 105 (.mov (.k (.int .i64 0)))]
def c185_20 : OL := [
 oV 106 (.bin .lss false (.t 105) (.t 104))]
def c185_21 : OL := [
 oV 107 (.ixS 1 (.t 103) (.t 105)),
 oV 108 (.load1 (.t 107)),
 oV 12 (.mov (.t 108))]
def c185_22 : OL := [
 oV 109 (.mov (.t 12)),
 oV 110 (.lenS (.t 109)),
 oV 111 (.bin .gtr false (.t 110) (.k (.int .i64 220)))]
def c185_23 : OL := [
 oV 112 (.loadA 9 (.t 4)),
 ⟨none,.stA true 9 (.t 2) (.t 112),none⟩,
 oV 3 (.mov (.k (.bool false)))]
def c185_24 : OL := [
 oV 13 (.mov (.k (.nil 5)))]
def c185_25 : OL := [
 oV 113 (.mov (.t 12)),
 oV 114 (.lenS (.t 113)),
 oV 115 (.mov (.k (.int .i64 0)))]
def c185_26 : OL := [
 oV 116 (.bin .lss false (.t 115) (.t 114))]
def c185_27 : OL := [
 oV 117 (.ixS 5 (.t 113) (.t 115)),
 oV 118 (.loadA 5 (.t 117)),
 ⟨some 15,.alloc 5 [.int .i64 0,.int .i64 0,.int .i64 0,.str [],.int .i64 0],none⟩,
 ⟨none,.stA true 5 (.t 15) (.t 118),none⟩]
def c185_28 : OL := [
 oV 119 (.mov (.t 13)),
 oV 120 (.loadA 5 (.t 15)),
 ⟨some 121,.buildS 5 1 [.int .i64 0,.int .i64 0,.int .i64 0,.str [],.int .i64 0] [(0,(.t 120))],none⟩,
 ⟨some 122,.app 5 48 (.t 119) (.t 121),none⟩,
 oV 13 (.mov (.t 122))]
def c185_29 : OL := [
 oV 123 (.bin .add true (.t 115) (.k (.int .i64 1))),
 oV 115 (.mov (.t 123))]
def c185_30 : OL := [
 oV 124 (.field 3 (.t 4)),
 oV 125 (.load1 (.t 124)),
 oV 126 (.mov (.t 13)),
 ⟨some 127,.buildS 1 1 [.nil 5] [(0,(.t 126))],none⟩,
 ⟨some 128,.app 1 24 (.t 125) (.t 127),none⟩,
 oV 129 (.field 3 (.t 4)),
 ⟨none,.st1 true (.t 129) (.t 128),none⟩]
def c185_31 : OL := [
 oV 130 (.bin .add true (.t 105) (.k (.int .i64 1))),
 oV 105 (.mov (.t 130))]
def c185_32 : OL := [
 oV 131 (.field 8 (.t 1)),
 oV 132 (.load1 (.t 131)),
 oV 133 (.lenS (.t 132)),
 oV 134 (.mov (.k (.int .i64 0)))]
def c185_33 : OL := [
 oV 135 (.bin .lss false (.t 134) (.t 133))]
def c185_34 : OL := [
 oV 136 (.ixS 5 (.t 132) (.t 134)),
 oV 137 (.loadA 5 (.t 136)),
 ⟨some 17,.alloc 5 [.int .i64 0,.int .i64 0,.int .i64 0,.str [],.int .i64 0],none⟩,
 ⟨none,.stA true 5 (.t 17) (.t 137),none⟩]
def c185_35 : OL := [
 oV 138 (.field 8 (.t 4)),
 oV 139 (.load1 (.t 138)),
 oV 140 (.loadA 5 (.t 17)),
 ⟨some 141,.buildS 5 1 [.int .i64 0,.int .i64 0,.int .i64 0,.str [],.int .i64 0] [(0,(.t 140))],none⟩,
 ⟨some 142,.app 5 48 (.t 139) (.t 141),none⟩,
 oV 143 (.field 8 (.t 4)),
 ⟨none,.st1 true (.t 143) (.t 142),none⟩]
def c185_36 : OL := [
 oV 144 (.bin .add true (.t 134) (.k (.int .i64 1))),
 oV 134 (.mov (.t 144))]
def c185_37 : OL := [
 oV 145 (.loadA 9 (.t 4)),
 ⟨none,.stA true 9 (.t 2) (.t 145),none⟩,
 oV 3 (.mov (.k (.bool true)))]
def law06_ref_c (F : Nat → Nat) : ACode :=
 (.seq
 (.reg c185_0 (some ([1,2],[1,2,75,76,93,94,121,122,127,128,141,142])))
 (.seq
 (.reg c185_1 (some ([1,2,4],[1,2,4,75,76,93,94,121,122,127,128,141,142])))
 (.seq
 (.seq
 (.reg (c185_2 F) (some ([1,2,4,63],[1,2,4,75,76,93,94,121,122,127,128,141,142])))
 (.cond (.t 63)
 (.seq
 (.reg c185_3 (some ([2,3],[2,75,76,93,94,121,122,127,128,141,142])))
 .ret)
 .skip))
 (.seq
 (.reg c185_4 (some ([1,2,4,5],[1,2,4,75,76,93,94,121,122,127,128,141,142])))
 (.seq
 (.seq
 (.reg c185_5 (some ([1,2,4,5,67,68,69],[1,2,4,75,76,93,94,121,122,127,128,141,142])))
 (.block 0
 (.loop
 (.seq
 (.reg c185_6 (some ([1,2,4,5,67,68,69,70],[1,2,4,75,76,93,94,121,122,127,128,141,142])))
 (.seq
 (.cond (.t 70)
 .skip
 (.exit 0))
 (.seq
 (.block 1
 (.seq
 (.reg c185_7 (some ([1,2,4,5,7,67,68,69],[1,2,4,7,75,76,93,94,121,122,127,128,141,142])))
 (.reg c185_8 (some ([1,2,4,5,67,68,69],[1,2,4,75,76,93,94,121,122,127,128,141,142])))))
 (.reg c185_9 (some ([1,2,4,5,67,68,69],[1,2,4,75,76,93,94,121,122,127,128,141,142])))))))))
 (.seq
 (.reg c185_10 (some ([1,2,4,5,8],[1,2,4,75,76,93,94,121,122,127,128,141,142])))
 (.seq
 (.seq
 (.reg c185_11 (some ([1,2,4,5,8,80,81,82],[1,2,4,75,76,93,94,121,122,127,128,141,142])))
 (.block 2
 (.loop
 (.seq
 (.reg c185_12 (some ([1,2,4,5,8,80,81,82,83],[1,2,4,75,76,93,94,121,122,127,128,141,142])))
 (.seq
 (.cond (.t 83)
 .skip
 (.exit 2))
 (.seq
 (.block 3
 (.seq
 (.reg c185_13 (some ([1,2,4,5,8,10,80,81,82],[1,2,4,10,75,76,93,94,121,122,127,128,141,142])))
 (.seq
 (.seq
 (.reg c185_14 (some ([1,2,4,5,8,10,80,81,82,89],[1,2,4,10,75,76,93,94,121,122,127,128,141,142])))
 (.cond (.t 89)
 (.seq
 (.reg c185_15 (some ([2,3],[2,75,76,93,94,121,122,127,128,141,142])))
 .ret)
 .skip))
 (.reg c185_16 (some ([1,2,4,5,8,80,81,82],[1,2,4,75,76,93,94,121,122,127,128,141,142]))))))
 (.reg c185_17 (some ([1,2,4,5,8,80,81,82],[1,2,4,75,76,93,94,121,122,127,128,141,142])))))))))
 (.seq
 (.reg c185_18 (some ([1,2,4],[1,2,4,75,76,93,94,121,122,127,128,141,142])))
 (.seq
 (.seq
 (.reg c185_19 (some ([1,2,4,103,104,105],[1,2,4,75,76,93,94,121,122,127,128,141,142])))
 (.block 4
 (.loop
 (.seq
 (.reg c185_20 (some ([1,2,4,103,104,105,106],[1,2,4,75,76,93,94,121,122,127,128,141,142])))
 (.seq
 (.cond (.t 106)
 .skip
 (.exit 4))
 (.seq
 (.block 5
 (.seq
 (.reg c185_21 (some ([1,2,4,12,103,104,105],[1,2,4,75,76,93,94,121,122,127,128,141,142])))
 (.seq
 (.seq
 (.reg c185_22 (some ([1,2,4,12,103,104,105,111],[1,2,4,75,76,93,94,121,122,127,128,141,142])))
 (.cond (.t 111)
 (.seq
 (.reg c185_23 (some ([2,3],[2,75,76,93,94,121,122,127,128,141,142])))
 .ret)
 .skip))
 (.seq
 (.reg c185_24 (some ([1,2,4,12,13,103,104,105],[1,2,4,75,76,93,94,121,122,127,128,141,142])))
 (.seq
 (.seq
 (.reg c185_25 (some ([1,2,4,13,103,104,105,113,114,115],[1,2,4,75,76,93,94,121,122,127,128,141,142])))
 (.block 6
 (.loop
 (.seq
 (.reg c185_26 (some ([1,2,4,13,103,104,105,113,114,115,116],[1,2,4,75,76,93,94,121,122,127,128,141,142])))
 (.seq
 (.cond (.t 116)
 .skip
 (.exit 6))
 (.seq
 (.block 7
 (.seq
 (.reg c185_27 (some ([1,2,4,13,15,103,104,105,113,114,115],[1,2,4,15,75,76,93,94,121,122,127,128,141,142])))
 (.reg c185_28 (some ([1,2,4,13,103,104,105,113,114,115],[1,2,4,75,76,93,94,121,122,127,128,141,142])))))
 (.reg c185_29 (some ([1,2,4,13,103,104,105,113,114,115],[1,2,4,75,76,93,94,121,122,127,128,141,142])))))))))
 (.reg c185_30 (some ([1,2,4,103,104,105],[1,2,4,75,76,93,94,121,122,127,128,141,142]))))))))
 (.reg c185_31 (some ([1,2,4,103,104,105],[1,2,4,75,76,93,94,121,122,127,128,141,142])))))))))
 (.seq
 (.seq
 (.reg c185_32 (some ([2,4,132,133,134],[2,4,75,76,93,94,121,122,127,128,141,142])))
 (.block 8
 (.loop
 (.seq
 (.reg c185_33 (some ([2,4,132,133,134,135],[2,4,75,76,93,94,121,122,127,128,141,142])))
 (.seq
 (.cond (.t 135)
 .skip
 (.exit 8))
 (.seq
 (.block 9
 (.seq
 (.reg c185_34 (some ([2,4,17,132,133,134],[2,4,17,75,76,93,94,121,122,127,128,141,142])))
 (.reg c185_35 (some ([2,4,132,133,134],[2,4,75,76,93,94,121,122,127,128,141,142])))))
 (.reg c185_36 (some ([2,4,132,133,134],[2,4,75,76,93,94,121,122,127,128,141,142])))))))))
 (.seq
 (.reg c185_37 (some ([2,3],[2,75,76,93,94,121,122,127,128,141,142])))
 .ret)))))))))))
def law06_ref_k (P : Program) (F : Nat → Nat) : Prop := chkFn P (F 185) 1 (law06_ref_c F) [.loadA 9 (.t 2),3] = true
def c186_0 : OL := [
 ⟨some 2,.box 9 (.t 0),none⟩,
 ⟨some 3,.box 9 (.t 1),none⟩,
 oV 4 (.mov (.k (.bool false)))]
def c186_1 (F : Nat → Nat) : OL := [
 oV 6 (.field 0 (.t 2)),
 oV 7 (.loadA 3 (.t 6)),
 oV 8 (.field 0 (.t 3)),
 oV 9 (.loadA 3 (.t 8)),
 ⟨some 10,.call (F 83) [(.t 7),(.t 9)],none⟩,
 oV 11 (.not (.t 10)),
 oV 12 (.mov (.t 11)),
 oG 13 (.field 4 (.t 2)) 12 false,
 oG 14 (.loadA 4 (.t 13)) 12 false,
 oG 15 (.field 4 (.t 3)) 12 false,
 oG 16 (.loadA 4 (.t 15)) 12 false,
 ⟨some 17,.call (F 170) [(.t 14),(.t 16)],some (12,false)⟩,
 oG 18 (.not (.t 17)) 12 false,
 oV 19 (.por (.t 12) (.t 18)),
 oV 20 (.mov (.t 19)),
 oG 21 (.field 3 (.t 2)) 20 false,
 oG 22 (.load1 (.t 21)) 20 false,
 oG 23 (.lenS (.t 22)) 20 false,
 oG 24 (.field 3 (.t 3)) 20 false,
 oG 25 (.load1 (.t 24)) 20 false,
 oG 26 (.lenS (.t 25)) 20 false,
 oG 27 (.bin .neq false (.t 23) (.t 26)) 20 false,
 oV 28 (.por (.t 20) (.t 27))]
def c186_2 : OL := [
 oV 4 (.mov (.k (.bool false)))]
def c186_3 : OL := [
 oV 5 (.mov (.k (.int .i64 0)))]
def c186_4 : OL := [
 oV 29 (.mov (.t 5)),
 oV 30 (.field 3 (.t 2)),
 oV 31 (.load1 (.t 30)),
 oV 32 (.lenS (.t 31)),
 oV 33 (.bin .lss false (.t 29) (.t 32))]
def c186_6 (F : Nat → Nat) : OL := [
 oV 36 (.field 3 (.t 2)),
 oV 37 (.load1 (.t 36)),
 oV 38 (.mov (.t 5)),
 oV 39 (.ixS 1 (.t 37) (.t 38)),
 oV 40 (.load1 (.t 39)),
 oV 41 (.field 3 (.t 3)),
 oV 42 (.load1 (.t 41)),
 oV 43 (.mov (.t 5)),
 oV 44 (.ixS 1 (.t 42) (.t 43)),
 oV 45 (.load1 (.t 44)),
 ⟨some 46,.call (F 202) [(.t 40),(.t 45)],none⟩,
 oV 47 (.not (.t 46))]
def c186_7 : OL := [
 oV 4 (.mov (.k (.bool false)))]
def c186_5 : OL := [
 oV 34 (.mov (.t 5)),
 oV 35 (.bin .add true (.t 34) (.k (.int .i64 1))),
 oV 5 (.mov (.t 35))]
def c186_8 (F : Nat → Nat) : OL := [
 oV 48 (.field 8 (.t 2)),
 oV 49 (.load1 (.t 48)),
 oV 50 (.field 8 (.t 3)),
 oV 51 (.load1 (.t 50)),
 ⟨some 52,.call (F 202) [(.t 49),(.t 51)],none⟩,
 oV 4 (.mov (.t 52))]
def ref06_Same_c (F : Nat → Nat) : ACode :=
 (.seq
 (.reg c186_0 (some ([2,3],[2,3])))
 (.seq
 (.seq
 (.reg (c186_1 F) (some ([2,3,28],[2,3])))
 (.cond (.t 28)
 (.seq
 (.reg c186_2 (some ([4],[])))
 .ret)
 .skip))
 (.seq
 (.seq
 (.reg c186_3 (some ([2,3,5],[2,3])))
 (.block 0
 (.loop
 (.seq
 (.seq
 (.reg c186_4 (some ([2,3,5,33],[2,3])))
 (.cond (.t 33)
 .skip
 (.exit 0)))
 (.seq
 (.block 1
 (.seq
 (.regD (c186_6 F) [] (some ([2,3,5,47],[2,3])))
 (.cond (.t 47)
 (.seq
 (.reg c186_7 (some ([4],[])))
 .ret)
 .skip)))
 (.reg c186_5 (some ([2,3,5],[2,3]))))))))
 (.seq
 (.reg (c186_8 F) (some ([4],[])))
 .ret))))
def ref06_Same_k (P : Program) (F : Nat → Nat) : Prop := chkFn P (F 186) 2 (ref06_Same_c F) [4] = true
def c187_0 : OL := [
 ⟨some 1,.box 9 (.t 0),none⟩,
 oV 2 (.mov (.k (.bool false)))]
def c187_1 (F : Nat → Nat) : OL := [
 oV 11 (.field 0 (.t 1)),
 oV 12 (.loadA 3 (.t 11)),
 ⟨some 13,.call (F 76) [(.t 12)],none⟩,
 oV 14 (.not (.t 13)),
 oV 15 (.mov (.t 14)),
 oG 16 (.field 4 (.t 1)) 15 false,
 oG 17 (.loadA 4 (.t 16)) 15 false,
 ⟨some 18,.call (F 145) [(.t 17)],some (15,false)⟩,
 oG 19 (.not (.t 18)) 15 false,
 oV 20 (.por (.t 15) (.t 19))]
def c187_2 : OL := [
 oV 2 (.mov (.k (.bool false)))]
def c187_3 : OL := [
 oV 21 (.field 3 (.t 1)),
 oV 22 (.load1 (.t 21)),
 oV 23 (.lenS (.t 22)),
 oV 24 (.field 0 (.t 1)),
 oV 25 (.field 0 (.t 24)),
 oV 26 (.load1 (.t 25)),
 oV 27 (.lenS (.t 26)),
 oV 28 (.bin .neq false (.t 23) (.t 27)),
 oV 29 (.mov (.t 28)),
 oG 30 (.field 8 (.t 1)) 29 false,
 oG 31 (.load1 (.t 30)) 29 false,
 oG 32 (.lenS (.t 31)) 29 false,
 oG 33 (.field 4 (.t 1)) 29 false,
 oG 34 (.field 3 (.t 33)) 29 false,
 oG 35 (.load1 (.t 34)) 29 false,
 oG 36 (.lenS (.t 35)) 29 false,
 oG 37 (.bin .neq false (.t 32) (.t 36)) 29 false,
 oV 38 (.por (.t 29) (.t 37))]
def c187_4 : OL := [
 oV 2 (.mov (.k (.bool false)))]
def c187_5 : OL := [
 oV 39 (.field 3 (.t 1)),
 oV 40 (.load1 (.t 39)),
 oV 41 (.lenS (.t 40)),
 oV 42 (.mov (.k (.int .i64 0)))]
def c187_6 : OL := [
 oV 43 (.bin .lss false (.t 42) (.t 41))]
def c187_7 : OL := [
 oV 44 (.mov (.t 42)),
 oV 45 (.ixS 1 (.t 40) (.t 42)),
 oV 46 (.load1 (.t 45)),
 oV 3 (.mov (.t 44)),
 oV 4 (.mov (.t 46))]
def c187_8 : OL := [
 oV 47 (.field 0 (.t 1)),
 oV 48 (.field 0 (.t 47)),
 oV 49 (.load1 (.t 48)),
 oV 50 (.mov (.t 3)),
 oV 51 (.ixS 3 (.t 49) (.t 50)),
 oV 52 (.field 2 (.t 51)),
 oV 53 (.load1 (.t 52)),
 oV 5 (.mov (.t 53))]
def c187_9 : OL := [
 oV 54 (.mov (.t 4)),
 oV 55 (.lenS (.t 54)),
 oV 56 (.mov (.t 5)),
 oV 57 (.lenS (.t 56)),
 oV 58 (.bin .neq false (.t 55) (.t 57))]
def c187_10 : OL := [
 oV 2 (.mov (.k (.bool false)))]
def c187_11 : OL := [
 oV 59 (.mov (.t 4)),
 oV 60 (.lenS (.t 59)),
 oV 61 (.mov (.k (.int .i64 0)))]
def c187_12 : OL := [
 oV 62 (.bin .lss false (.t 61) (.t 60))]
def c187_13 : OL := [
 oV 63 (.mov (.t 61)),
 oV 64 (.ixS 5 (.t 59) (.t 61)),
 oV 65 (.loadA 5 (.t 64)),
 ⟨some 7,.alloc 5 [.int .i64 0,.int .i64 0,.int .i64 0,.str [],.int .i64 0],none⟩,
 oV 6 (.mov (.t 63)),
 ⟨none,.stA true 5 (.t 7) (.t 65),none⟩]
def c187_14 (F : Nat → Nat) : OL := [
 oV 66 (.loadA 5 (.t 7)),
 ⟨some 67,.call (F 191) [(.t 66)],none⟩,
 oV 68 (.not (.t 67)),
 oV 69 (.mov (.t 68)),
 oG 70 (.field 1 (.t 7)) 69 false,
 oG 71 (.load1 (.t 70)) 69 false,
 ⟨some 72,.call (F 192) [(.t 71)],some (69,false)⟩,
 oG 73 (.mov (.t 5)) 69 false,
 oG 74 (.mov (.t 6)) 69 false,
 oG 75 (.ixS 1 (.t 73) (.t 74)) 69 false,
 oG 76 (.load1 (.t 75)) 69 false,
 oG 77 (.bin .neq false (.t 72) (.t 76)) 69 false,
 oV 78 (.por (.t 69) (.t 77)),
 oV 79 (.mov (.t 78)),
 oG 80 (.field 0 (.t 7)) 79 false,
 oG 81 (.load1 (.t 80)) 79 false,
 oG 82 (.mov (.t 3)) 79 false,
 oG 83 (.bin .neq false (.t 81) (.t 82)) 79 false,
 oV 84 (.por (.t 79) (.t 83)),
 oV 85 (.mov (.t 84)),
 oG 86 (.field 4 (.t 7)) 85 false,
 oG 87 (.load1 (.t 86)) 85 false,
 oG 88 (.bin .neq false (.t 87) (.k (.int .i64 0))) 85 false,
 oV 89 (.por (.t 85) (.t 88))]
def c187_15 : OL := [
 oV 2 (.mov (.k (.bool false)))]
def c187_16 : OL := [
 oV 90 (.bin .add true (.t 61) (.k (.int .i64 1))),
 oV 61 (.mov (.t 90))]
def c187_17 : OL := [
 oV 91 (.bin .add true (.t 42) (.k (.int .i64 1))),
 oV 42 (.mov (.t 91))]
def c187_18 : OL := [
 oV 92 (.field 8 (.t 1)),
 oV 93 (.load1 (.t 92)),
 oV 94 (.lenS (.t 93)),
 oV 95 (.mov (.k (.int .i64 0)))]
def c187_19 : OL := [
 oV 96 (.bin .lss false (.t 95) (.t 94))]
def c187_20 : OL := [
 oV 97 (.mov (.t 95)),
 oV 98 (.ixS 5 (.t 93) (.t 95)),
 oV 99 (.loadA 5 (.t 98)),
 ⟨some 9,.alloc 5 [.int .i64 0,.int .i64 0,.int .i64 0,.str [],.int .i64 0],none⟩,
 oV 8 (.mov (.t 97)),
 ⟨none,.stA true 5 (.t 9) (.t 99),none⟩]
def c187_21 : OL := [
 oV 100 (.field 4 (.t 1)),
 oV 101 (.field 3 (.t 100)),
 oV 102 (.load1 (.t 101)),
 oV 103 (.mov (.t 8)),
 oV 104 (.ixS 4 (.t 102) (.t 103)),
 oV 105 (.loadA 4 (.t 104)),
 ⟨some 10,.alloc 4 [.int .i64 0,.int .i64 0,.int .i64 0,.str []],none⟩,
 ⟨none,.stA true 4 (.t 10) (.t 105),none⟩]
def c187_22 : OL := [
 oV 106 (.field 1 (.t 9)),
 oV 107 (.load1 (.t 106)),
 oV 108 (.field 1 (.t 10)),
 oV 109 (.load1 (.t 108)),
 oV 110 (.bin .neq false (.t 107) (.t 109)),
 oV 111 (.mov (.t 110)),
 oG 112 (.field 2 (.t 9)) 111 false,
 oG 113 (.load1 (.t 112)) 111 false,
 oG 114 (.field 2 (.t 10)) 111 false,
 oG 115 (.load1 (.t 114)) 111 false,
 oG 116 (.bin .neq false (.t 113) (.t 115)) 111 false,
 oV 117 (.por (.t 111) (.t 116)),
 oV 118 (.mov (.t 117)),
 oG 119 (.field 3 (.t 9)) 118 false,
 oG 120 (.load1 (.t 119)) 118 false,
 oG 121 (.field 3 (.t 10)) 118 false,
 oG 122 (.load1 (.t 121)) 118 false,
 oG 123 (.bin .neq false (.t 120) (.t 122)) 118 false,
 oV 124 (.por (.t 118) (.t 123))]
def c187_23 : OL := [
 oV 2 (.mov (.k (.bool false)))]
def c187_24 : OL := [
 oV 125 (.field 0 (.t 9)),
 oV 126 (.load1 (.t 125)),
 oV 127 (.bin .lss false (.t 126) (.k (.int .i64 0))),
 oV 128 (.mov (.t 127)),
 oG 129 (.field 0 (.t 9)) 128 false,
 oG 130 (.load1 (.t 129)) 128 false,
 oG 131 (.field 3 (.t 1)) 128 false,
 oG 132 (.load1 (.t 131)) 128 false,
 oG 133 (.lenS (.t 132)) 128 false,
 oG 134 (.bin .geq false (.t 130) (.t 133)) 128 false,
 oV 135 (.por (.t 128) (.t 134)),
 oV 136 (.mov (.t 135)),
 oG 137 (.field 4 (.t 9)) 136 false,
 oG 138 (.load1 (.t 137)) 136 false,
 oG 139 (.bin .lss false (.t 138) (.k (.int .i64 1))) 136 false,
 oV 140 (.por (.t 136) (.t 139)),
 oV 141 (.mov (.t 140)),
 oG 142 (.field 4 (.t 9)) 141 false,
 oG 143 (.load1 (.t 142)) 141 false,
 oG 144 (.bin .gtr false (.t 143) (.k (.int .i64 3))) 141 false,
 oV 145 (.por (.t 141) (.t 144))]
def c187_25 : OL := [
 oV 2 (.mov (.k (.bool false)))]
def c187_26 : OL := [
 oV 146 (.bin .add true (.t 95) (.k (.int .i64 1))),
 oV 95 (.mov (.t 146))]
def c187_27 : OL := [
 oV 2 (.mov (.k (.bool true)))]
def sched_Right_c (F : Nat → Nat) : ACode :=
 (.seq
 (.reg c187_0 (some ([1],[1])))
 (.seq
 (.seq
 (.reg (c187_1 F) (some ([1,20],[1])))
 (.cond (.t 20)
 (.seq
 (.reg c187_2 (some ([2],[])))
 .ret)
 .skip))
 (.seq
 (.seq
 (.reg c187_3 (some ([1,38],[1])))
 (.cond (.t 38)
 (.seq
 (.reg c187_4 (some ([2],[])))
 .ret)
 .skip))
 (.seq
 (.seq
 (.reg c187_5 (some ([1,40,41,42],[1])))
 (.block 0
 (.loop
 (.seq
 (.reg c187_6 (some ([1,40,41,42,43],[1])))
 (.seq
 (.cond (.t 43)
 .skip
 (.exit 0))
 (.seq
 (.block 1
 (.seq
 (.reg c187_7 (some ([1,3,4,40,41,42],[1])))
 (.seq
 (.reg c187_8 (some ([1,3,4,5,40,41,42],[1])))
 (.seq
 (.seq
 (.reg c187_9 (some ([1,3,4,5,40,41,42,58],[1])))
 (.cond (.t 58)
 (.seq
 (.reg c187_10 (some ([2],[])))
 .ret)
 .skip))
 (.seq
 (.reg c187_11 (some ([1,3,5,40,41,42,59,60,61],[1])))
 (.block 2
 (.loop
 (.seq
 (.reg c187_12 (some ([1,3,5,40,41,42,59,60,61,62],[1])))
 (.seq
 (.cond (.t 62)
 .skip
 (.exit 2))
 (.seq
 (.block 3
 (.seq
 (.reg c187_13 (some ([1,3,5,6,7,40,41,42,59,60,61],[1,7])))
 (.seq
 (.regD (c187_14 F) [(6,7),(6,8),(6,9),(6,10)] (some ([1,3,5,40,41,42,59,60,61,89],[1])))
 (.cond (.t 89)
 (.seq
 (.reg c187_15 (some ([2],[])))
 .ret)
 .skip))))
 (.reg c187_16 (some ([1,3,5,40,41,42,59,60,61],[1])))))))))))))
 (.reg c187_17 (some ([1,40,41,42],[1])))))))))
 (.seq
 (.seq
 (.reg c187_18 (some ([1,93,94,95],[1])))
 (.block 4
 (.loop
 (.seq
 (.reg c187_19 (some ([1,93,94,95,96],[1])))
 (.seq
 (.cond (.t 96)
 .skip
 (.exit 4))
 (.seq
 (.block 5
 (.seq
 (.reg c187_20 (some ([1,8,9,93,94,95],[1,9])))
 (.seq
 (.reg c187_21 (some ([1,9,10,93,94,95],[1,9,10])))
 (.seq
 (.seq
 (.reg c187_22 (some ([1,9,93,94,95,124],[1,9])))
 (.cond (.t 124)
 (.seq
 (.reg c187_23 (some ([2],[])))
 .ret)
 .skip))
 (.seq
 (.reg c187_24 (some ([1,93,94,95,145],[1])))
 (.cond (.t 145)
 (.seq
 (.reg c187_25 (some ([2],[])))
 .ret)
 .skip))))))
 (.reg c187_26 (some ([1,93,94,95],[1])))))))))
 (.seq
 (.reg c187_27 (some ([2],[])))
 .ret))))))
def sched_Right_k (P : Program) (F : Nat → Nat) : Prop := chkFn P (F 187) 1 (sched_Right_c F) [2] = true
def c191_0 : OL := [
 ⟨some 1,.box 5 (.t 0),none⟩,
 oV 2 (.mov (.k (.bool false)))]
def c191_1 : OL := [
 oV 3 (.field 1 (.t 1)),
 oV 4 (.load1 (.t 3))]
def c191_2 : OL := [
 oV 6 (.bin .eql false (.t 4) (.k (.int .i64 1))),
 oV 5 (.mov (.t 6))]
def c191_3 : OL := [
 oV 7 (.field 2 (.t 1)),
 oV 8 (.load1 (.t 7)),
 oV 9 (.bin .geq false (.t 8) (.k (.int .i64 1))),
 oV 10 (.mov (.t 9)),
 oG 11 (.field 2 (.t 1)) 10 true,
 oG 12 (.load1 (.t 11)) 10 true,
 oG 13 (.bin .leq false (.t 12) (.k (.int .i64 16))) 10 true,
 oV 14 (.pand (.t 10) (.t 13)),
 oV 15 (.mov (.t 14)),
 oG 16 (.field 3 (.t 1)) 15 true,
 oG 17 (.load1 (.t 16)) 15 true,
 oG 18 (.bin .eql false (.t 17) (.k (.str []))) 15 true,
 oV 19 (.pand (.t 15) (.t 18)),
 oV 2 (.mov (.t 19))]
def c191_4 : OL := [
 oV 21 (.bin .eql false (.t 4) (.k (.int .i64 2))),
 oV 20 (.mov (.t 21))]
def c191_5 : OL := [
 oV 22 (.field 2 (.t 1)),
 oV 23 (.load1 (.t 22)),
 oV 24 (.bin .geq false (.t 23) (.k (.int .i64 1))),
 oV 25 (.mov (.t 24)),
 oG 26 (.field 2 (.t 1)) 25 true,
 oG 27 (.load1 (.t 26)) 25 true,
 oG 28 (.bin .leq false (.t 27) (.k (.int .i64 16))) 25 true,
 oV 29 (.pand (.t 25) (.t 28)),
 oV 30 (.mov (.t 29)),
 oG 31 (.field 3 (.t 1)) 30 true,
 oG 32 (.load1 (.t 31)) 30 true,
 oG 33 (.lenT (.t 32)) 30 true,
 oG 34 (.bin .eql false (.t 33) (.k (.int .i64 32))) 30 true,
 oV 35 (.pand (.t 30) (.t 34)),
 oV 2 (.mov (.t 35))]
def c191_6 : OL := [
 oV 37 (.bin .eql false (.t 4) (.k (.int .i64 3))),
 oV 36 (.mov (.t 37))]
def c191_7 : OL := [
 oV 38 (.field 2 (.t 1)),
 oV 39 (.load1 (.t 38)),
 oV 40 (.bin .eql false (.t 39) (.k (.int .i64 0))),
 oV 41 (.mov (.t 40)),
 oG 42 (.field 3 (.t 1)) 41 true,
 oG 43 (.load1 (.t 42)) 41 true,
 oG 44 (.bin .eql false (.t 43) (.k (.str []))) 41 true,
 oV 45 (.pand (.t 41) (.t 44)),
 oV 2 (.mov (.t 45))]
def c191_8 : OL := [
 oV 2 (.mov (.k (.bool false)))]
def sched_request_c : ACode :=
 (.seq
 (.reg c191_0 (some ([1],[1])))
 (.seq
 (.seq
 (.reg c191_1 (some ([1,4],[1])))
 (.block 0
 (.seq
 (.reg c191_2 (some ([1,4,5],[1])))
 (.cond (.t 5)
 (.seq
 (.reg c191_3 (some ([2],[])))
 .ret)
 (.seq
 (.reg c191_4 (some ([1,4,20],[1])))
 (.cond (.t 20)
 (.seq
 (.reg c191_5 (some ([2],[])))
 .ret)
 (.seq
 (.reg c191_6 (some ([1,36],[1])))
 (.cond (.t 36)
 (.seq
 (.reg c191_7 (some ([2],[])))
 .ret)
 .skip))))))))
 (.seq
 (.reg c191_8 (some ([2],[])))
 .ret)))
def sched_request_k (P : Program) (F : Nat → Nat) : Prop := chkFn P (F 191) 1 (sched_request_c) [2] = true
def c192_0 : OL := [
 oV 2 (.mov (.k (.int .i64 0)))]
def c192_1 : OL := [
 oV 3 (.mov (.t 0))]
def c192_2 : OL := [
 oV 5 (.bin .eql false (.t 3) (.k (.int .i64 1))),
 oV 4 (.mov (.t 5))]
def c192_3 : OL := [
 oV 2 (.mov (.k (.int .i64 2)))]
def c192_4 : OL := [
 oV 7 (.bin .eql false (.t 3) (.k (.int .i64 2))),
 oV 6 (.mov (.t 7))]
def c192_5 : OL := [
 oV 2 (.mov (.k (.int .i64 4)))]
def c192_6 : OL := [
 oV 9 (.bin .eql false (.t 3) (.k (.int .i64 3))),
 oV 8 (.mov (.t 9))]
def c192_7 : OL := [
 oV 2 (.mov (.k (.int .i64 1)))]
def c192_8 : OL := [
 oV 2 (.mov (.k (.int .i64 0)))]
def sched_cost_c : ACode :=
 (.seq
 (.reg c192_0 (some ([0],[])))
 (.seq
 (.seq
 (.reg c192_1 (some ([3],[])))
 (.block 0
 (.seq
 (.reg c192_2 (some ([3,4],[])))
 (.cond (.t 4)
 (.seq
 (.reg c192_3 (some ([2],[])))
 .ret)
 (.seq
 (.reg c192_4 (some ([3,6],[])))
 (.cond (.t 6)
 (.seq
 (.reg c192_5 (some ([2],[])))
 .ret)
 (.seq
 (.reg c192_6 (some ([8],[])))
 (.cond (.t 8)
 (.seq
 (.reg c192_7 (some ([2],[])))
 .ret)
 .skip))))))))
 (.seq
 (.reg c192_8 (some ([2],[])))
 .ret)))
def sched_cost_k (P : Program) (F : Nat → Nat) : Prop := chkFn P (F 192) 1 (sched_cost_c) [2] = true
def c193_0 : OL := [
 oV 2 (.mov (.k (.nil 1)))]
def c193_1 : OL := [
 oV 3 (.mov (.t 0)),
 oV 4 (.nilS (.t 3))]
def c193_2 : OL := [
 oV 2 (.mov (.k (.nil 1)))]
def c193_3 : OL := [
 ⟨some 5,.buildS 1 0 [.nil 5] [],none⟩,
 oV 6 (.mov (.t 0)),
 ⟨some 7,.app 1 24 (.t 5) (.t 6),none⟩,
 oV 2 (.mov (.t 7))]
def sl_Clone_Lsched_Job_c : ACode :=
 (.seq
 (.reg c193_0 (some ([0],[5,7])))
 (.seq
 (.seq
 (.reg c193_1 (some ([0,4],[5,7])))
 (.cond (.t 4)
 (.seq
 (.reg c193_2 (some ([2],[5,7])))
 .ret)
 .skip))
 (.seq
 (.reg c193_3 (some ([2],[5,7])))
 .ret)))
def sl_Clone_Lsched_Job_k (P : Program) (F : Nat → Nat) : Prop := chkFn P (F 193) 1 (sl_Clone_Lsched_Job_c) [2] = true
def c194_0 : OL := [
 oV 2 (.mov (.k (.nil 5)))]
def c194_1 : OL := [
 oV 3 (.mov (.t 0)),
 oV 4 (.nilS (.t 3))]
def c194_2 : OL := [
 oV 2 (.mov (.k (.nil 5)))]
def c194_3 : OL := [
 ⟨some 5,.buildS 5 0 [.int .i64 0,.int .i64 0,.int .i64 0,.str [],.int .i64 0] [],none⟩,
 oV 6 (.mov (.t 0)),
 ⟨some 7,.app 5 48 (.t 5) (.t 6),none⟩,
 oV 2 (.mov (.t 7))]
def sl_Clone_sched_Job_c : ACode :=
 (.seq
 (.reg c194_0 (some ([0],[5,7])))
 (.seq
 (.seq
 (.reg c194_1 (some ([0,4],[5,7])))
 (.cond (.t 4)
 (.seq
 (.reg c194_2 (some ([2],[5,7])))
 .ret)
 .skip))
 (.seq
 (.reg c194_3 (some ([2],[5,7])))
 .ret)))
def sl_Clone_sched_Job_k (P : Program) (F : Nat → Nat) : Prop := chkFn P (F 194) 1 (sl_Clone_sched_Job_c) [2] = true
def c152_0 : OL := [
 oV 2 (.mov (.k (.nil 5)))]
def c152_1 : OL := [
 oV 3 (.mov (.k (.int .i64 0)))]
def c152_2 : OL := [
 oV 9 (.mov (.t 0)),
 oV 10 (.lenS (.t 9)),
 oV 11 (.mov (.k (.int .i64 0)))]
def c152_3 : OL := [
 oV 12 (.bin .lss false (.t 11) (.t 10))]
def c152_4 : OL := [
 oV 13 (.ixS 1 (.t 9) (.t 11)),
 oV 14 (.load1 (.t 13)),
 oV 5 (.mov (.t 14))]
def c152_5 : OL := [
 oV 15 (.mov (.t 3)),
 oV 16 (.mov (.t 5)),
 oV 17 (.lenS (.t 16)),
 oV 18 (.bin .add true (.t 15) (.t 17)),
 oV 3 (.mov (.t 18))]
def c152_6 : OL := [
 oV 19 (.mov (.t 3)),
 oV 20 (.bin .lss false (.t 19) (.k (.int .i64 0)))]
def c152_8 : OL := [
 oV 22 (.bin .add true (.t 11) (.k (.int .i64 1))),
 oV 11 (.mov (.t 22))]
def c152_9 (F : Nat → Nat) : OL := [
 oV 23 (.mov (.t 3)),
 ⟨some 24,.call (F 151) [(.k (.nil 5)),(.t 23)],none⟩,
 oV 6 (.mov (.t 24))]
def c152_10 : OL := [
 oV 25 (.mov (.t 0)),
 oV 26 (.lenS (.t 25)),
 oV 27 (.mov (.k (.int .i64 0)))]
def c152_11 : OL := [
 oV 28 (.bin .lss false (.t 27) (.t 26))]
def c152_12 : OL := [
 oV 29 (.ixS 1 (.t 25) (.t 27)),
 oV 30 (.load1 (.t 29)),
 oV 8 (.mov (.t 30))]
def c152_13 : OL := [
 oV 31 (.mov (.t 6)),
 oV 32 (.mov (.t 8)),
 ⟨some 33,.app 5 48 (.t 31) (.t 32),none⟩,
 oV 6 (.mov (.t 33))]
def c152_14 : OL := [
 oV 34 (.bin .add true (.t 27) (.k (.int .i64 1))),
 oV 27 (.mov (.t 34))]
def c152_15 : OL := [
 oV 35 (.mov (.t 6)),
 oV 2 (.mov (.t 35))]
def sl_Concat_sched_Job_c (F : Nat → Nat) : ACode :=
 (.seq
 (.reg c152_0 (some ([0],[33,1024])))
 (.seq
 (.reg c152_1 (some ([0,3],[33,1024])))
 (.seq
 (.seq
 (.reg c152_2 (some ([0,3,9,10,11],[33,1024])))
 (.block 0
 (.loop
 (.seq
 (.reg c152_3 (some ([0,3,9,10,11,12],[33,1024])))
 (.seq
 (.cond (.t 12)
 .skip
 (.exit 0))
 (.seq
 (.block 1
 (.seq
 (.reg c152_4 (some ([0,3,5,9,10,11],[33,1024])))
 (.seq
 (.reg c152_5 (some ([0,3,9,10,11],[33,1024])))
 (.seq
 (.reg c152_6 (some ([0,3,9,10,11,20],[33,1024])))
 (.cond (.t 20)
 .halt
 .skip)))))
 (.reg c152_8 (some ([0,3,9,10,11],[33,1024])))))))))
 (.seq
 (.reg (c152_9 F) (some ([0,6],[33,1024])))
 (.seq
 (.seq
 (.reg c152_10 (some ([6,25,26,27],[33,1024])))
 (.block 2
 (.loop
 (.seq
 (.reg c152_11 (some ([6,25,26,27,28],[33,1024])))
 (.seq
 (.cond (.t 28)
 .skip
 (.exit 2))
 (.seq
 (.block 3
 (.seq
 (.reg c152_12 (some ([6,8,25,26,27],[33,1024])))
 (.reg c152_13 (some ([6,25,26,27],[33,1024])))))
 (.reg c152_14 (some ([6,25,26,27],[33,1024])))))))))
 (.seq
 (.reg c152_15 (some ([2],[33,1024])))
 .ret))))))
def sl_Concat_sched_Job_k (P : Program) (F : Nat → Nat) : Prop := chkFn P (F 152) 1 (sl_Concat_sched_Job_c F) [2] = true
def c195_0 : OL := [
 ⟨some 1,.box 9 (.t 0),none⟩,
 oV 2 (.mov (.k (.bool false)))]
def c195_1 (F : Nat → Nat) : OL := [
 oV 10 (.field 0 (.t 1)),
 oV 11 (.loadA 3 (.t 10)),
 ⟨some 12,.call (F 82) [(.t 11)],none⟩,
 oV 13 (.not (.t 12)),
 oV 14 (.mov (.t 13)),
 oG 15 (.field 4 (.t 1)) 14 false,
 oG 16 (.loadA 4 (.t 15)) 14 false,
 ⟨some 17,.call (F 171) [(.t 16)],some (14,false)⟩,
 oG 18 (.not (.t 17)) 14 false,
 oV 19 (.por (.t 14) (.t 18)),
 oV 20 (.mov (.t 19)),
 oG 21 (.field 3 (.t 1)) 20 false,
 oG 22 (.load1 (.t 21)) 20 false,
 oG 23 (.lenS (.t 22)) 20 false,
 oG 24 (.field 0 (.t 1)) 20 false,
 oG 25 (.field 0 (.t 24)) 20 false,
 oG 26 (.load1 (.t 25)) 20 false,
 oG 27 (.lenS (.t 26)) 20 false,
 oG 28 (.bin .neq false (.t 23) (.t 27)) 20 false,
 oV 29 (.por (.t 20) (.t 28)),
 oV 30 (.mov (.t 29)),
 oG 31 (.field 8 (.t 1)) 30 false,
 oG 32 (.load1 (.t 31)) 30 false,
 oG 33 (.lenS (.t 32)) 30 false,
 oG 34 (.field 4 (.t 1)) 30 false,
 oG 35 (.field 3 (.t 34)) 30 false,
 oG 36 (.load1 (.t 35)) 30 false,
 oG 37 (.lenS (.t 36)) 30 false,
 oG 38 (.bin .neq false (.t 33) (.t 37)) 30 false,
 oV 39 (.por (.t 30) (.t 38))]
def c195_2 : OL := [
 oV 2 (.mov (.k (.bool false)))]
def c195_3 : OL := [
 oV 3 (.mov (.k (.int .i64 0)))]
def c195_4 : OL := [
 oV 40 (.mov (.t 3)),
 oV 41 (.field 3 (.t 1)),
 oV 42 (.load1 (.t 41)),
 oV 43 (.lenS (.t 42)),
 oV 44 (.bin .lss false (.t 40) (.t 43))]
def c195_6 : OL := [
 oV 47 (.field 0 (.t 1)),
 oV 48 (.field 0 (.t 47)),
 oV 49 (.load1 (.t 48)),
 oV 50 (.mov (.t 3)),
 oV 51 (.ixS 3 (.t 49) (.t 50)),
 oV 52 (.field 2 (.t 51)),
 oV 53 (.load1 (.t 52)),
 oV 4 (.mov (.t 53))]
def c195_7 : OL := [
 oV 54 (.mov (.t 4)),
 oV 55 (.lenS (.t 54)),
 oV 56 (.field 3 (.t 1)),
 oV 57 (.load1 (.t 56)),
 oV 58 (.mov (.t 3)),
 oV 59 (.ixS 1 (.t 57) (.t 58)),
 oV 60 (.load1 (.t 59)),
 oV 61 (.lenS (.t 60)),
 oV 62 (.bin .neq false (.t 55) (.t 61))]
def c195_8 : OL := [
 oV 2 (.mov (.k (.bool false)))]
def c195_9 : OL := [
 oV 5 (.mov (.k (.int .i64 0)))]
def c195_10 : OL := [
 oV 63 (.mov (.t 5)),
 oV 64 (.mov (.t 4)),
 oV 65 (.lenS (.t 64)),
 oV 66 (.bin .lss false (.t 63) (.t 65))]
def c195_12 : OL := [
 oV 69 (.field 3 (.t 1)),
 oV 70 (.load1 (.t 69)),
 oV 71 (.mov (.t 3)),
 oV 72 (.ixS 1 (.t 70) (.t 71)),
 oV 73 (.load1 (.t 72)),
 oV 74 (.mov (.t 5)),
 oV 75 (.ixS 5 (.t 73) (.t 74)),
 oV 76 (.loadA 5 (.t 75)),
 ⟨some 6,.alloc 5 [.int .i64 0,.int .i64 0,.int .i64 0,.str [],.int .i64 0],none⟩,
 ⟨none,.stA true 5 (.t 6) (.t 76),none⟩]
def c195_13 (F : Nat → Nat) : OL := [
 oV 77 (.field 0 (.t 6)),
 oV 78 (.load1 (.t 77)),
 oV 79 (.mov (.t 3)),
 oV 80 (.bin .neq false (.t 78) (.t 79)),
 oV 81 (.mov (.t 80)),
 oG 82 (.field 4 (.t 6)) 81 false,
 oG 83 (.load1 (.t 82)) 81 false,
 oG 84 (.bin .neq false (.t 83) (.k (.int .i64 0))) 81 false,
 oV 85 (.por (.t 81) (.t 84)),
 oV 86 (.mov (.t 85)),
 oG 87 (.field 1 (.t 6)) 86 false,
 oG 88 (.load1 (.t 87)) 86 false,
 ⟨some 89,.call (F 196) [(.t 88)],some (86,false)⟩,
 oG 90 (.mov (.t 4)) 86 false,
 oG 91 (.mov (.t 5)) 86 false,
 oG 92 (.ixS 1 (.t 90) (.t 91)) 86 false,
 oG 93 (.load1 (.t 92)) 86 false,
 oG 94 (.bin .neq false (.t 89) (.t 93)) 86 false,
 oV 95 (.por (.t 86) (.t 94)),
 oV 96 (.mov (.t 95)),
 oG 97 (.field 1 (.t 6)) 96 false,
 oG 98 (.load1 (.t 97)) 96 false,
 oG 99 (.field 2 (.t 6)) 96 false,
 oG 100 (.load1 (.t 99)) 96 false,
 oG 101 (.field 3 (.t 6)) 96 false,
 oG 102 (.load1 (.t 101)) 96 false,
 ⟨some 103,.call (F 190) [(.t 98),(.t 100),(.t 102)],some (96,false)⟩,
 oG 104 (.not (.t 103)) 96 false,
 oV 105 (.por (.t 96) (.t 104))]
def c195_14 : OL := [
 oV 2 (.mov (.k (.bool false)))]
def c195_11 : OL := [
 oV 67 (.mov (.t 5)),
 oV 68 (.bin .add true (.t 67) (.k (.int .i64 1))),
 oV 5 (.mov (.t 68))]
def c195_5 : OL := [
 oV 45 (.mov (.t 3)),
 oV 46 (.bin .add true (.t 45) (.k (.int .i64 1))),
 oV 3 (.mov (.t 46))]
def c195_15 : OL := [
 oV 7 (.mov (.k (.int .i64 0)))]
def c195_16 : OL := [
 oV 106 (.mov (.t 7)),
 oV 107 (.field 8 (.t 1)),
 oV 108 (.load1 (.t 107)),
 oV 109 (.lenS (.t 108)),
 oV 110 (.bin .lss false (.t 106) (.t 109))]
def c195_18 : OL := [
 oV 113 (.field 8 (.t 1)),
 oV 114 (.load1 (.t 113)),
 oV 115 (.mov (.t 7)),
 oV 116 (.ixS 5 (.t 114) (.t 115)),
 oV 117 (.loadA 5 (.t 116)),
 oV 118 (.field 4 (.t 1)),
 oV 119 (.field 3 (.t 118)),
 oV 120 (.load1 (.t 119)),
 oV 121 (.mov (.t 7)),
 oV 122 (.ixS 4 (.t 120) (.t 121)),
 oV 123 (.loadA 4 (.t 122)),
 ⟨some 8,.alloc 5 [.int .i64 0,.int .i64 0,.int .i64 0,.str [],.int .i64 0],none⟩,
 ⟨some 9,.alloc 4 [.int .i64 0,.int .i64 0,.int .i64 0,.str []],none⟩,
 ⟨none,.stA true 5 (.t 8) (.t 117),none⟩,
 ⟨none,.stA true 4 (.t 9) (.t 123),none⟩]
def c195_19 : OL := [
 oV 124 (.field 1 (.t 8)),
 oV 125 (.load1 (.t 124)),
 oV 126 (.field 1 (.t 9)),
 oV 127 (.load1 (.t 126)),
 oV 128 (.bin .neq false (.t 125) (.t 127)),
 oV 129 (.mov (.t 128)),
 oG 130 (.field 2 (.t 8)) 129 false,
 oG 131 (.load1 (.t 130)) 129 false,
 oG 132 (.field 2 (.t 9)) 129 false,
 oG 133 (.load1 (.t 132)) 129 false,
 oG 134 (.bin .neq false (.t 131) (.t 133)) 129 false,
 oV 135 (.por (.t 129) (.t 134)),
 oV 136 (.mov (.t 135)),
 oG 137 (.field 3 (.t 8)) 136 false,
 oG 138 (.load1 (.t 137)) 136 false,
 oG 139 (.field 3 (.t 9)) 136 false,
 oG 140 (.load1 (.t 139)) 136 false,
 oG 141 (.bin .neq false (.t 138) (.t 140)) 136 false,
 oV 142 (.por (.t 136) (.t 141)),
 oV 143 (.mov (.t 142)),
 oG 144 (.field 0 (.t 8)) 143 false,
 oG 145 (.load1 (.t 144)) 143 false,
 oG 146 (.bin .lss false (.t 145) (.k (.int .i64 0))) 143 false,
 oV 147 (.por (.t 143) (.t 146)),
 oV 148 (.mov (.t 147)),
 oG 149 (.field 0 (.t 8)) 148 false,
 oG 150 (.load1 (.t 149)) 148 false,
 oG 151 (.field 3 (.t 1)) 148 false,
 oG 152 (.load1 (.t 151)) 148 false,
 oG 153 (.lenS (.t 152)) 148 false,
 oG 154 (.bin .geq false (.t 150) (.t 153)) 148 false,
 oV 155 (.por (.t 148) (.t 154)),
 oV 156 (.mov (.t 155)),
 oG 157 (.field 4 (.t 8)) 156 false,
 oG 158 (.load1 (.t 157)) 156 false,
 oG 159 (.bin .lss false (.t 158) (.k (.int .i64 1))) 156 false,
 oV 160 (.por (.t 156) (.t 159)),
 oV 161 (.mov (.t 160)),
 oG 162 (.field 4 (.t 8)) 161 false,
 oG 163 (.load1 (.t 162)) 161 false,
 oG 164 (.bin .gtr false (.t 163) (.k (.int .i64 3))) 161 false,
 oV 165 (.por (.t 161) (.t 164))]
def c195_20 : OL := [
 oV 2 (.mov (.k (.bool false)))]
def c195_17 : OL := [
 oV 111 (.mov (.t 7)),
 oV 112 (.bin .add true (.t 111) (.k (.int .i64 1))),
 oV 7 (.mov (.t 112))]
def c195_21 : OL := [
 oV 2 (.mov (.k (.bool true)))]
def ref06_Right_c (F : Nat → Nat) : ACode :=
 (.seq
 (.reg c195_0 (some ([1],[1])))
 (.seq
 (.seq
 (.reg (c195_1 F) (some ([1,39],[1])))
 (.cond (.t 39)
 (.seq
 (.reg c195_2 (some ([2],[])))
 .ret)
 .skip))
 (.seq
 (.seq
 (.reg c195_3 (some ([1,3],[1])))
 (.block 0
 (.loop
 (.seq
 (.seq
 (.reg c195_4 (some ([1,3,44],[1])))
 (.cond (.t 44)
 .skip
 (.exit 0)))
 (.seq
 (.block 1
 (.seq
 (.reg c195_6 (some ([1,3,4],[1])))
 (.seq
 (.seq
 (.reg c195_7 (some ([1,3,4,62],[1])))
 (.cond (.t 62)
 (.seq
 (.reg c195_8 (some ([2],[])))
 .ret)
 .skip))
 (.seq
 (.reg c195_9 (some ([1,3,4,5],[1])))
 (.block 2
 (.loop
 (.seq
 (.seq
 (.reg c195_10 (some ([1,3,4,5,66],[1])))
 (.cond (.t 66)
 .skip
 (.exit 2)))
 (.seq
 (.block 3
 (.seq
 (.reg c195_12 (some ([1,3,4,5,6],[1,6])))
 (.seq
 (.regD (c195_13 F) [(12,13),(12,14),(12,15),(12,16)] (some ([1,3,4,5,105],[1])))
 (.cond (.t 105)
 (.seq
 (.reg c195_14 (some ([2],[])))
 .ret)
 .skip))))
 (.reg c195_11 (some ([1,3,4,5],[1])))))))))))
 (.reg c195_5 (some ([1,3],[1]))))))))
 (.seq
 (.seq
 (.reg c195_15 (some ([1,7],[1])))
 (.block 4
 (.loop
 (.seq
 (.seq
 (.reg c195_16 (some ([1,7,110],[1])))
 (.cond (.t 110)
 .skip
 (.exit 4)))
 (.seq
 (.block 5
 (.seq
 (.regD c195_18 [(0,11),(1,11),(2,11),(3,11),(4,11),(5,11),(6,11),(7,11),(8,11),(9,11),(10,11),(0,12),(1,12),(2,12),(3,12),(4,12),(5,12),(6,12),(7,12),(8,12),(9,12),(10,12),(11,12),(5,13),(6,13),(7,13),(8,13),(9,13),(10,13)] (some ([1,7,8,9],[1,8,9])))
 (.seq
 (.reg c195_19 (some ([1,7,165],[1])))
 (.cond (.t 165)
 (.seq
 (.reg c195_20 (some ([2],[])))
 .ret)
 .skip))))
 (.reg c195_17 (some ([1,7],[1]))))))))
 (.seq
 (.reg c195_21 (some ([2],[])))
 .ret)))))
def ref06_Right_k (P : Program) (F : Nat → Nat) : Prop := chkFn P (F 195) 1 (ref06_Right_c F) [2] = true
def c196_0 : OL := [
 oV 2 (.mov (.k (.int .i64 0)))]
def c196_1 : OL := [
 oV 3 (.mov (.t 0)),
 oV 4 (.bin .eql false (.t 3) (.k (.int .i64 1)))]
def c196_2 : OL := [
 oV 2 (.mov (.k (.int .i64 2)))]
def c196_3 : OL := [
 oV 5 (.mov (.t 0)),
 oV 6 (.bin .eql false (.t 5) (.k (.int .i64 2)))]
def c196_4 : OL := [
 oV 2 (.mov (.k (.int .i64 4)))]
def c196_5 : OL := [
 oV 2 (.mov (.k (.int .i64 1)))]
def ref06_Cost_c : ACode :=
 (.seq
 (.reg c196_0 (some ([0],[])))
 (.seq
 (.seq
 (.reg c196_1 (some ([0,4],[])))
 (.cond (.t 4)
 (.seq
 (.reg c196_2 (some ([2],[])))
 .ret)
 .skip))
 (.seq
 (.seq
 (.reg c196_3 (some ([6],[])))
 (.cond (.t 6)
 (.seq
 (.reg c196_4 (some ([2],[])))
 .ret)
 .skip))
 (.seq
 (.reg c196_5 (some ([2],[])))
 .ret))))
def ref06_Cost_k (P : Program) (F : Nat → Nat) : Prop := chkFn P (F 196) 1 (ref06_Cost_c) [2] = true
def c197_0 : OL := [
 ⟨some 3,.box 5 (.t 1),none⟩,
 oV 4 (.mov (.k (.nil 5)))]
def c197_1 : OL := [
 oV 5 (.mov (.k (.nil 5)))]
def c197_2 : OL := [
 oV 6 (.mov (.t 5)),
 oV 7 (.mov (.t 0)),
 ⟨some 8,.app 5 48 (.t 6) (.t 7),none⟩,
 oV 5 (.mov (.t 8))]
def c197_3 : OL := [
 oV 9 (.mov (.t 5)),
 oV 10 (.loadA 5 (.t 3)),
 ⟨some 11,.buildS 5 1 [.int .i64 0,.int .i64 0,.int .i64 0,.str [],.int .i64 0] [(0,(.t 10))],none⟩,
 ⟨some 12,.app 5 48 (.t 9) (.t 11),none⟩,
 oV 4 (.mov (.t 12))]
def ref06_behind_c : ACode :=
 (.seq
 (.reg c197_0 (some ([0,3],[3,8,11,12])))
 (.seq
 (.reg c197_1 (some ([0,3,5],[3,8,11,12])))
 (.seq
 (.reg c197_2 (some ([3,5],[3,8,11,12])))
 (.seq
 (.reg c197_3 (some ([4],[8,11,12])))
 .ret))))
def ref06_behind_k (P : Program) (F : Nat → Nat) : Prop := chkFn P (F 197) 2 (ref06_behind_c) [4] = true
def c198_0 : OL := [
 ⟨some 1,.box 3 (.t 0),none⟩,
 oV 2 (.mov (.k (.bool false)))]
def c198_1 : OL := [
 oV 3 (.mov (.k (.int .i64 0)))]
def c198_2 : OL := [
 oV 4 (.mov (.t 3)),
 oV 5 (.field 0 (.t 1)),
 oV 6 (.load1 (.t 5)),
 oV 7 (.lenS (.t 6)),
 oV 8 (.bin .lss false (.t 4) (.t 7))]
def c198_4 : OL := [
 oV 11 (.field 0 (.t 1)),
 oV 12 (.load1 (.t 11)),
 oV 13 (.mov (.t 3)),
 oV 14 (.ixS 3 (.t 12) (.t 13)),
 oV 15 (.field 2 (.t 14)),
 oV 16 (.load1 (.t 15)),
 oV 17 (.lenS (.t 16)),
 oV 18 (.bin .gtr false (.t 17) (.k (.int .i64 0)))]
def c198_5 : OL := [
 oV 2 (.mov (.k (.bool true)))]
def c198_3 : OL := [
 oV 9 (.mov (.t 3)),
 oV 10 (.bin .add true (.t 9) (.k (.int .i64 1))),
 oV 3 (.mov (.t 10))]
def c198_6 : OL := [
 oV 2 (.mov (.k (.bool false)))]
def ref05_Waits_c : ACode :=
 (.seq
 (.reg c198_0 (some ([1],[1])))
 (.seq
 (.seq
 (.reg c198_1 (some ([1,3],[1])))
 (.block 0
 (.loop
 (.seq
 (.seq
 (.reg c198_2 (some ([1,3,8],[1])))
 (.cond (.t 8)
 .skip
 (.exit 0)))
 (.seq
 (.block 1
 (.seq
 (.reg c198_4 (some ([1,3,18],[1])))
 (.cond (.t 18)
 (.seq
 (.reg c198_5 (some ([2],[])))
 .ret)
 .skip)))
 (.reg c198_3 (some ([1,3],[1]))))))))
 (.seq
 (.reg c198_6 (some ([2],[])))
 .ret)))
def ref05_Waits_k (P : Program) (F : Nat → Nat) : Prop := chkFn P (F 198) 1 (ref05_Waits_c) [2] = true
def c199_0 : OL := [
 ⟨some 1,.box 3 (.t 0),none⟩,
 ⟨some 2,.alloc 3 [.nil 3,.int .i64 0,.bool false],none⟩,
 oV 3 (.mov (.k (.int .i64 0))),
 oV 4 (.mov (.k (.int .i64 0)))]
def c199_1 : OL := [
 oV 5 (.mov (.k (.int .i64 0)))]
def c199_2 : OL := [
 oV 8 (.mov (.t 5)),
 oV 9 (.bin .lss false (.t 8) (.k (.int .i64 40)))]
def c199_4 : OL := [
 oV 12 (.field 0 (.t 1)),
 oV 13 (.load1 (.t 12)),
 oV 14 (.field 1 (.t 1)),
 oV 15 (.load1 (.t 14)),
 oV 16 (.ixS 3 (.t 13) (.t 15)),
 oV 17 (.loadA 3 (.t 16)),
 ⟨some 6,.alloc 3 [.int .i64 0,.int .i64 0,.nil 1],none⟩,
 ⟨none,.stA true 3 (.t 6) (.t 17),none⟩]
def c199_5 : OL := [
 oV 18 (.field 2 (.t 6)),
 oV 19 (.load1 (.t 18)),
 oV 20 (.lenS (.t 19)),
 oV 21 (.bin .eql false (.t 20) (.k (.int .i64 0)))]
def c199_6 : OL := [
 oV 22 (.field 1 (.t 6)),
 ⟨none,.st1 true (.t 22) (.k (.int .i64 0)),none⟩]
def c199_7 (F : Nat → Nat) : OL := [
 oV 23 (.loadA 3 (.t 1)),
 oV 24 (.field 1 (.t 1)),
 oV 25 (.load1 (.t 24)),
 oV 26 (.loadA 3 (.t 6)),
 ⟨some 27,.call (F 204) [(.t 23),(.t 25),(.t 26)],none⟩,
 ⟨some 28,.call (F 203) [(.t 27)],none⟩,
 ⟨none,.stA true 3 (.t 1) (.t 28),none⟩]
def c199_8 : OL := [
 oV 29 (.field 2 (.t 1)),
 oV 30 (.load1 (.t 29)),
 oV 31 (.not (.t 30))]
def c199_9 : OL := [
 oV 32 (.field 1 (.t 6)),
 oV 33 (.load1 (.t 32)),
 oV 34 (.field 0 (.t 6)),
 oV 35 (.load1 (.t 34)),
 oV 36 (.bin .mul true (.k (.int .i64 4)) (.t 35)),
 oV 37 (.bin .add true (.t 33) (.t 36)),
 oV 38 (.field 1 (.t 6)),
 ⟨none,.st1 true (.t 38) (.t 37),none⟩]
def c199_10 (F : Nat → Nat) : OL := [
 oV 39 (.loadA 3 (.t 1)),
 oV 40 (.field 1 (.t 1)),
 oV 41 (.load1 (.t 40)),
 oV 42 (.loadA 3 (.t 6)),
 ⟨some 43,.call (F 204) [(.t 39),(.t 41),(.t 42)],none⟩,
 ⟨none,.stA true 3 (.t 1) (.t 43),none⟩]
def c199_11 : OL := [
 oV 44 (.field 2 (.t 1)),
 ⟨none,.st1 true (.t 44) (.k (.bool true)),none⟩]
def c199_12 : OL := [
 oV 45 (.field 2 (.t 6)),
 oV 46 (.load1 (.t 45)),
 oV 47 (.ixS 1 (.t 46) (.k (.int .i64 0))),
 oV 48 (.load1 (.t 47)),
 oV 7 (.mov (.t 48))]
def c199_13 : OL := [
 oV 49 (.mov (.t 7)),
 oV 50 (.field 1 (.t 6)),
 oV 51 (.load1 (.t 50)),
 oV 52 (.bin .gtr false (.t 49) (.t 51))]
def c199_14 (F : Nat → Nat) : OL := [
 oV 53 (.loadA 3 (.t 1)),
 ⟨some 54,.call (F 203) [(.t 53)],none⟩,
 ⟨none,.stA true 3 (.t 1) (.t 54),none⟩]
def c199_15 : OL := [
 oV 55 (.field 2 (.t 6)),
 oV 56 (.load1 (.t 55)),
 oV 57 (.slS 1 (.t 56) (some (.k (.int .i64 1))) none),
 oV 58 (.field 2 (.t 6)),
 ⟨none,.st1 true (.t 58) (.t 57),none⟩]
def c199_16 : OL := [
 oV 59 (.field 1 (.t 6)),
 oV 60 (.load1 (.t 59)),
 oV 61 (.mov (.t 7)),
 oV 62 (.bin .sub true (.t 60) (.t 61)),
 oV 63 (.field 1 (.t 6)),
 ⟨none,.st1 true (.t 63) (.t 62),none⟩]
def c199_17 : OL := [
 oV 64 (.field 2 (.t 6)),
 oV 65 (.load1 (.t 64)),
 oV 66 (.lenS (.t 65)),
 oV 67 (.bin .eql false (.t 66) (.k (.int .i64 0)))]
def c199_18 : OL := [
 oV 68 (.field 1 (.t 6)),
 ⟨none,.st1 true (.t 68) (.k (.int .i64 0)),none⟩]
def c199_19 (F : Nat → Nat) : OL := [
 oV 69 (.loadA 3 (.t 1)),
 oV 70 (.field 1 (.t 1)),
 oV 71 (.load1 (.t 70)),
 oV 72 (.loadA 3 (.t 6)),
 ⟨some 73,.call (F 204) [(.t 69),(.t 71),(.t 72)],none⟩,
 oV 74 (.field 1 (.t 1)),
 oV 75 (.load1 (.t 74)),
 oV 76 (.mov (.t 7)),
 ⟨none,.stA true 3 (.t 2) (.t 73),none⟩,
 oV 3 (.mov (.t 75)),
 oV 4 (.mov (.t 76))]
def c199_3 : OL := [
 oV 10 (.mov (.t 5)),
 oV 11 (.bin .add true (.t 10) (.k (.int .i64 1))),
 oV 5 (.mov (.t 11))]
def c199_20 : OL := [
 oV 77 (.loadA 3 (.t 1)),
 ⟨none,.stA true 3 (.t 2) (.t 77),none⟩,
 oV 3 (.mov (.k (.int .i64 (-1)))),
 oV 4 (.mov (.k (.int .i64 0)))]
def ref05_Next_c (F : Nat → Nat) : ACode :=
 (.seq
 (.reg c199_0 (some ([1,2],[1,2])))
 (.seq
 (.seq
 (.reg c199_1 (some ([1,2,5],[1,2])))
 (.block 0
 (.loop
 (.seq
 (.seq
 (.reg c199_2 (some ([1,2,5,9],[1,2])))
 (.cond (.t 9)
 .skip
 (.exit 0)))
 (.seq
 (.block 1
 (.seq
 (.reg c199_4 (some ([1,2,5,6],[1,2,6])))
 (.seq
 (.seq
 (.reg c199_5 (some ([1,2,5,6,21],[1,2,6])))
 (.cond (.t 21)
 (.seq
 (.reg c199_6 (some ([1,2,5,6],[1,2,6])))
 (.seq
 (.reg (c199_7 F) (some ([1,2,5],[1,2])))
 (.exit 1)))
 .skip))
 (.seq
 (.seq
 (.reg c199_8 (some ([1,2,5,6,31],[1,2,6])))
 (.cond (.t 31)
 (.seq
 (.reg c199_9 (some ([1,2,5,6],[1,2,6])))
 (.seq
 (.reg (c199_10 F) (some ([1,2,5,6],[1,2,6])))
 (.reg c199_11 (some ([1,2,5,6],[1,2,6])))))
 .skip))
 (.seq
 (.reg c199_12 (some ([1,2,5,6,7],[1,2,6])))
 (.seq
 (.seq
 (.reg c199_13 (some ([1,2,5,6,7,52],[1,2,6])))
 (.cond (.t 52)
 (.seq
 (.reg (c199_14 F) (some ([1,2,5],[1,2])))
 (.exit 1))
 .skip))
 (.seq
 (.reg c199_15 (some ([1,2,6,7],[1,2,6])))
 (.seq
 (.reg c199_16 (some ([1,2,6,7],[1,2,6])))
 (.seq
 (.seq
 (.reg c199_17 (some ([1,2,6,7,67],[1,2,6])))
 (.cond (.t 67)
 (.reg c199_18 (some ([1,2,6,7],[1,2,6])))
 .skip))
 (.seq
 (.regD (c199_19 F) [(4,5),(4,6),(4,7),(5,8),(6,8),(7,8)] (some ([2,3,4],[2])))
 .ret))))))))))
 (.reg c199_3 (some ([1,2,5],[1,2]))))))))
 (.seq
 (.reg c199_20 (some ([2,3,4],[2])))
 .ret)))
def ref05_Next_k (P : Program) (F : Nat → Nat) : Prop := chkFn P (F 199) 1 (ref05_Next_c F) [.loadA 3 (.t 2),3,4] = true
def c200_0 : OL := [
 oV 4 (.mov (.k (.nil 5)))]
def c200_1 : OL := [
 oV 5 (.mov (.k (.nil 5)))]
def c200_2 : OL := [
 oV 6 (.mov (.k (.int .i64 0)))]
def c200_3 : OL := [
 oV 7 (.mov (.t 6)),
 oV 8 (.mov (.t 0)),
 oV 9 (.lenS (.t 8)),
 oV 10 (.bin .lss false (.t 7) (.t 9))]
def c200_5 : OL := [
 oV 13 (.mov (.t 6)),
 oV 14 (.mov (.t 1)),
 oV 15 (.bin .neq false (.t 13) (.t 14))]
def c200_6 : OL := [
 oV 16 (.mov (.t 5)),
 oV 17 (.mov (.t 0)),
 oV 18 (.mov (.t 6)),
 oV 19 (.ixS 5 (.t 17) (.t 18)),
 oV 20 (.loadA 5 (.t 19)),
 ⟨some 21,.buildS 5 1 [.int .i64 0,.int .i64 0,.int .i64 0,.str [],.int .i64 0] [(0,(.t 20))],none⟩,
 ⟨some 22,.app 5 48 (.t 16) (.t 21),none⟩,
 oV 5 (.mov (.t 22))]
def c200_4 : OL := [
 oV 11 (.mov (.t 6)),
 oV 12 (.bin .add true (.t 11) (.k (.int .i64 1))),
 oV 6 (.mov (.t 12))]
def c200_7 : OL := [
 oV 23 (.mov (.t 5)),
 oV 4 (.mov (.t 23))]
def ref06_without_c : ACode :=
 (.seq
 (.reg c200_0 (some ([0,1],[21,22])))
 (.seq
 (.reg c200_1 (some ([0,1,5],[21,22])))
 (.seq
 (.seq
 (.reg c200_2 (some ([0,1,5,6],[21,22])))
 (.block 0
 (.loop
 (.seq
 (.seq
 (.reg c200_3 (some ([0,1,5,6,10],[21,22])))
 (.cond (.t 10)
 .skip
 (.exit 0)))
 (.seq
 (.block 1
 (.seq
 (.reg c200_5 (some ([0,1,5,6,15],[21,22])))
 (.cond (.t 15)
 (.reg c200_6 (some ([0,1,5,6],[21,22])))
 .skip)))
 (.reg c200_4 (some ([0,1,5,6],[21,22]))))))))
 (.seq
 (.reg c200_7 (some ([4],[21,22])))
 .ret))))
def ref06_without_k (P : Program) (F : Nat → Nat) : Prop := chkFn P (F 200) 2 (ref06_without_c) [4] = true
def c201_0 : OL := [
 ⟨some 2,.box 9 (.t 0),none⟩,
 ⟨some 3,.box 5 (.t 1),none⟩,
 ⟨some 4,.alloc 9 [.nil 3,.int .i64 0,.bool false,.nil 1,.nil 1,.nil 2,.int .i64 0,.nil 4,.nil 5],none⟩]
def c201_1 (F : Nat → Nat) : OL := [
 oV 9 (.field 4 (.t 2)),
 oV 10 (.loadA 4 (.t 9)),
 oV 11 (.field 1 (.t 3)),
 oV 12 (.load1 (.t 11)),
 oV 13 (.field 2 (.t 3)),
 oV 14 (.load1 (.t 13)),
 oV 15 (.field 3 (.t 3)),
 oV 16 (.load1 (.t 15)),
 ⟨some 17,.call (F 169) [(.t 10),(.t 12),(.t 14),(.t 16)],none⟩,
 oV 8 (.mov (.t 17)),
 oV 18 (.extr 0 (.t 8)),
 oV 19 (.extr 1 (.t 8)),
 oV 20 (.extr 2 (.t 8)),
 ⟨some 5,.alloc 4 [.nil 1,.nil 2,.int .i64 0,.nil 4],none⟩,
 ⟨none,.stA true 4 (.t 5) (.t 18),none⟩,
 oV 6 (.mov (.t 19)),
 oV 7 (.mov (.t 20))]
def c201_2 : OL := [
 oV 21 (.field 4 (.t 3)),
 oV 22 (.load1 (.t 21)),
 oV 23 (.bin .add true (.t 22) (.k (.int .i64 1))),
 oV 24 (.field 4 (.t 3)),
 ⟨none,.st1 true (.t 24) (.t 23),none⟩]
def c201_3 (F : Nat → Nat) : OL := [
 oV 25 (.field 0 (.t 2)),
 oV 26 (.loadA 3 (.t 25)),
 oV 27 (.field 3 (.t 2)),
 oV 28 (.load1 (.t 27)),
 oV 29 (.loadA 4 (.t 5)),
 oV 30 (.field 8 (.t 2)),
 oV 31 (.load1 (.t 30)),
 oV 32 (.loadA 5 (.t 3)),
 ⟨some 33,.call (F 197) [(.t 31),(.t 32)],none⟩,
 oV 34 (.build 9 [.nil 3,.int .i64 0,.bool false,.nil 1,.nil 1,.nil 2,.int .i64 0,.nil 4,.nil 5] [(0,3,(.t 26)),(3,1,(.t 28)),(4,4,(.t 29)),(8,1,(.t 33))]),
 ⟨none,.stA true 9 (.t 4) (.t 34),none⟩]
def ref06_again_c (F : Nat → Nat) : ACode :=
 (.seq
 (.reg c201_0 (some ([2,3,4],[2,3,4])))
 (.seq
 (.reg (c201_1 F) (some ([2,3,4,5],[2,3,4,5])))
 (.seq
 (.reg c201_2 (some ([2,3,4,5],[2,3,4,5])))
 (.seq
 (.regD (c201_3 F) [(0,8),(1,8),(2,8),(3,8),(4,8)] (some ([4],[4])))
 .ret))))
def ref06_again_k (P : Program) (F : Nat → Nat) : Prop := chkFn P (F 201) 2 (ref06_again_c F) [.loadA 9 (.t 4)] = true
def c202_0 : OL := [
 oV 4 (.mov (.k (.bool false)))]
def c202_1 : OL := [
 oV 6 (.mov (.t 0)),
 oV 7 (.lenS (.t 6)),
 oV 8 (.mov (.t 1)),
 oV 9 (.lenS (.t 8)),
 oV 10 (.bin .neq false (.t 7) (.t 9))]
def c202_2 : OL := [
 oV 4 (.mov (.k (.bool false)))]
def c202_3 : OL := [
 oV 5 (.mov (.k (.int .i64 0)))]
def c202_4 : OL := [
 oV 11 (.mov (.t 5)),
 oV 12 (.mov (.t 0)),
 oV 13 (.lenS (.t 12)),
 oV 14 (.bin .lss false (.t 11) (.t 13))]
def c202_6 : OL := [
 oV 17 (.mov (.t 0)),
 oV 18 (.mov (.t 5)),
 oV 19 (.ixS 5 (.t 17) (.t 18)),
 oV 20 (.loadA 5 (.t 19)),
 oV 21 (.mov (.t 1)),
 oV 22 (.mov (.t 5)),
 oV 23 (.ixS 5 (.t 21) (.t 22)),
 oV 24 (.loadA 5 (.t 23)),
 oV 25 (.eqA true [0,0,0,2,0] (.t 20) (.t 24))]
def c202_7 : OL := [
 oV 4 (.mov (.k (.bool false)))]
def c202_5 : OL := [
 oV 15 (.mov (.t 5)),
 oV 16 (.bin .add true (.t 15) (.k (.int .i64 1))),
 oV 5 (.mov (.t 16))]
def c202_8 : OL := [
 oV 4 (.mov (.k (.bool true)))]
def ref06_jobs_c : ACode :=
 (.seq
 (.reg c202_0 (some ([0,1],[])))
 (.seq
 (.seq
 (.reg c202_1 (some ([0,1,10],[])))
 (.cond (.t 10)
 (.seq
 (.reg c202_2 (some ([4],[])))
 .ret)
 .skip))
 (.seq
 (.seq
 (.reg c202_3 (some ([0,1,5],[])))
 (.block 0
 (.loop
 (.seq
 (.seq
 (.reg c202_4 (some ([0,1,5,14],[])))
 (.cond (.t 14)
 .skip
 (.exit 0)))
 (.seq
 (.block 1
 (.seq
 (.regD c202_6 [] (some ([0,1,5,25],[])))
 (.cond (.t 25)
 (.seq
 (.reg c202_7 (some ([4],[])))
 .ret)
 .skip)))
 (.reg c202_5 (some ([0,1,5],[]))))))))
 (.seq
 (.reg c202_8 (some ([4],[])))
 .ret))))
def ref06_jobs_k (P : Program) (F : Nat → Nat) : Prop := chkFn P (F 202) 2 (ref06_jobs_c) [4] = true
def c151_0 : OL := [
 oV 4 (.mov (.k (.nil 5)))]
def c151_1 : OL := [
 oV 5 (.mov (.t 1)),
 oV 6 (.bin .lss false (.t 5) (.k (.int .i64 0)))]
def c151_3 : OL := [
 oV 8 (.mov (.t 1)),
 oV 9 (.mov (.t 0)),
 oV 10 (.capS (.t 9)),
 oV 11 (.mov (.t 0)),
 oV 12 (.lenS (.t 11)),
 oV 13 (.bin .sub true (.t 10) (.t 12)),
 oV 14 (.bin .sub true (.t 8) (.t 13)),
 oV 1 (.mov (.t 14))]
def c151_4 : OL := [
 oV 15 (.mov (.t 1)),
 oV 16 (.bin .gtr false (.t 15) (.k (.int .i64 0)))]
def c151_5 : OL := [
 oV 17 (.mov (.t 0)),
 oV 18 (.mov (.t 0)),
 oV 19 (.capS (.t 18)),
 oV 20 (.slS 5 (.t 17) none (some (.t 19))),
 oV 21 (.mov (.t 1)),
 ⟨some 22,.appZ 5 48 [.int .i64 0,.int .i64 0,.int .i64 0,.str [],.int .i64 0] (.t 20) (.t 21),none⟩,
 oV 23 (.mov (.t 0)),
 oV 24 (.lenS (.t 23)),
 oV 25 (.slS 5 (.t 22) none (some (.t 24))),
 oV 0 (.mov (.t 25))]
def c151_6 : OL := [
 oV 26 (.mov (.t 0)),
 oV 4 (.mov (.t 26))]
def sl_Grow_sched_Job_c : ACode :=
 (.seq
 (.reg c151_0 (some ([0,1],[22])))
 (.seq
 (.seq
 (.reg c151_1 (some ([0,1,6],[22])))
 (.cond (.t 6)
 .halt
 .skip))
 (.seq
 (.seq
 (.reg c151_3 (some ([0,1],[22])))
 (.seq
 (.reg c151_4 (some ([0,1,16],[22])))
 (.cond (.t 16)
 (.reg c151_5 (some ([0],[22])))
 .skip)))
 (.seq
 (.reg c151_6 (some ([4],[22])))
 .ret))))
def sl_Grow_sched_Job_k (P : Program) (F : Nat → Nat) : Prop := chkFn P (F 151) 2 (sl_Grow_sched_Job_c) [4] = true
def c203_0 : OL := [
 ⟨some 1,.box 3 (.t 0),none⟩,
 ⟨some 2,.alloc 3 [.nil 3,.int .i64 0,.bool false],none⟩]
def c203_1 : OL := [
 oV 3 (.field 2 (.t 1)),
 ⟨none,.st1 true (.t 3) (.k (.bool false)),none⟩]
def c203_2 : OL := [
 oV 4 (.field 1 (.t 1)),
 oV 5 (.load1 (.t 4)),
 oV 6 (.bin .add true (.t 5) (.k (.int .i64 1))),
 oV 7 (.field 1 (.t 1)),
 ⟨none,.st1 true (.t 7) (.t 6),none⟩]
def c203_3 : OL := [
 oV 8 (.field 1 (.t 1)),
 oV 9 (.load1 (.t 8)),
 oV 10 (.field 0 (.t 1)),
 oV 11 (.load1 (.t 10)),
 oV 12 (.lenS (.t 11)),
 oV 13 (.bin .eql false (.t 9) (.t 12))]
def c203_4 : OL := [
 oV 14 (.field 1 (.t 1)),
 ⟨none,.st1 true (.t 14) (.k (.int .i64 0)),none⟩]
def c203_5 : OL := [
 oV 15 (.loadA 3 (.t 1)),
 ⟨none,.stA true 3 (.t 2) (.t 15),none⟩]
def ref05_over_c : ACode :=
 (.seq
 (.reg c203_0 (some ([1,2],[1,2])))
 (.seq
 (.reg c203_1 (some ([1,2],[1,2])))
 (.seq
 (.reg c203_2 (some ([1,2],[1,2])))
 (.seq
 (.seq
 (.reg c203_3 (some ([1,2,13],[1,2])))
 (.cond (.t 13)
 (.reg c203_4 (some ([1,2],[1,2])))
 .skip))
 (.seq
 (.reg c203_5 (some ([2],[2])))
 .ret)))))
def ref05_over_k (P : Program) (F : Nat → Nat) : Prop := chkFn P (F 203) 1 (ref05_over_c) [.loadA 3 (.t 2)] = true
def c204_0 : OL := [
 ⟨some 3,.box 3 (.t 0),none⟩,
 ⟨some 5,.box 3 (.t 2),none⟩,
 ⟨some 6,.alloc 3 [.nil 3,.int .i64 0,.bool false],none⟩]
def c204_1 : OL := [
 oV 9 (.field 1 (.t 3)),
 oV 10 (.load1 (.t 9)),
 oV 11 (.field 2 (.t 3)),
 oV 12 (.load1 (.t 11)),
 oV 13 (.build 3 [.nil 3,.int .i64 0,.bool false] [(1,1,(.t 10)),(2,1,(.t 12))]),
 ⟨some 7,.alloc 3 [.nil 3,.int .i64 0,.bool false],none⟩,
 ⟨none,.stA true 3 (.t 7) (.t 13),none⟩]
def c204_2 : OL := [
 oV 8 (.mov (.k (.int .i64 0)))]
def c204_3 : OL := [
 oV 14 (.mov (.t 8)),
 oV 15 (.field 0 (.t 3)),
 oV 16 (.load1 (.t 15)),
 oV 17 (.lenS (.t 16)),
 oV 18 (.bin .lss false (.t 14) (.t 17))]
def c204_5 : OL := [
 oV 21 (.mov (.t 8)),
 oV 22 (.mov (.t 1)),
 oV 23 (.bin .eql false (.t 21) (.t 22))]
def c204_6 : OL := [
 oV 24 (.field 0 (.t 7)),
 oV 25 (.load1 (.t 24)),
 oV 26 (.loadA 3 (.t 5)),
 ⟨some 27,.buildS 3 1 [.int .i64 0,.int .i64 0,.nil 1] [(0,(.t 26))],none⟩,
 ⟨some 28,.app 3 40 (.t 25) (.t 27),none⟩,
 oV 29 (.field 0 (.t 7)),
 ⟨none,.st1 true (.t 29) (.t 28),none⟩]
def c204_7 : OL := [
 oV 30 (.field 0 (.t 7)),
 oV 31 (.load1 (.t 30)),
 oV 32 (.field 0 (.t 3)),
 oV 33 (.load1 (.t 32)),
 oV 34 (.mov (.t 8)),
 oV 35 (.ixS 3 (.t 33) (.t 34)),
 oV 36 (.loadA 3 (.t 35)),
 ⟨some 37,.buildS 3 1 [.int .i64 0,.int .i64 0,.nil 1] [(0,(.t 36))],none⟩,
 ⟨some 38,.app 3 40 (.t 31) (.t 37),none⟩,
 oV 39 (.field 0 (.t 7)),
 ⟨none,.st1 true (.t 39) (.t 38),none⟩]
def c204_4 : OL := [
 oV 19 (.mov (.t 8)),
 oV 20 (.bin .add true (.t 19) (.k (.int .i64 1))),
 oV 8 (.mov (.t 20))]
def c204_8 : OL := [
 oV 40 (.loadA 3 (.t 7)),
 ⟨none,.stA true 3 (.t 6) (.t 40),none⟩]
def ref05_with_c : ACode :=
 (.seq
 (.reg c204_0 (some ([1,3,5,6],[3,5,6,27,28,37,38])))
 (.seq
 (.reg c204_1 (some ([1,3,5,6,7],[3,5,6,7,27,28,37,38])))
 (.seq
 (.seq
 (.reg c204_2 (some ([1,3,5,6,7,8],[3,5,6,7,27,28,37,38])))
 (.block 0
 (.loop
 (.seq
 (.seq
 (.reg c204_3 (some ([1,3,5,6,7,8,18],[3,5,6,7,27,28,37,38])))
 (.cond (.t 18)
 .skip
 (.exit 0)))
 (.seq
 (.block 1
 (.seq
 (.reg c204_5 (some ([1,3,5,6,7,8,23],[3,5,6,7,27,28,37,38])))
 (.cond (.t 23)
 (.reg c204_6 (some ([1,3,5,6,7,8],[3,5,6,7,27,28,37,38])))
 (.regD c204_7 [(0,7),(1,7)] (some ([1,3,5,6,7,8],[3,5,6,7,27,28,37,38]))))))
 (.reg c204_4 (some ([1,3,5,6,7,8],[3,5,6,7,27,28,37,38]))))))))
 (.seq
 (.reg c204_8 (some ([6],[6,27,28,37,38])))
 .ret))))
def ref05_with_k (P : Program) (F : Nat → Nat) : Prop := chkFn P (F 204) 3 (ref05_with_c) [.loadA 3 (.t 6)] = true
end Lk.C
