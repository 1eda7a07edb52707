/-
  strings.Repeat at this seat: the shelf's contract, as the machine's.
-/
import Derived.Test.YtihjalnebgjmgaaChecked
import Derived.Shelf.Strings.Repeat
import Derived.Test.YtihjalnebgjmgaaLkC
import Derived.KernelRfl
set_option linter.unusedSimpArgs false
set_option linter.unusedVariables false
namespace Go.Proofs
open Go.Shelf Go.RowKit
def Try.laysRepeat_ren : Ren where
  f x := match x with
    | 105 => 57
    | 212 => 70
    | 99 => 71
    | 165 => 72
    | 166 => 73
    | 170 => 74
    | 169 => 75
    | 263 => 88
    | 264 => 89
    | 206 => 90
    | 240 => 91
    | 241 => 92
    | 276 => 93
    | 277 => 94
    | n => n
  t x := match x with
    | 9 => 9
    | 3 => 3
    | 4 => 4
    | 20 => 20
    | 0 => 0
    | 46 => 104
    | 109 => 105
    | 5 => 5
    | 72 => 110
    | 76 => 114
    | 51 => 127
    | 146 => 128
    | 53 => 130
    | 148 => 131
    | 70 => 108
    | 37 => 44
    | 75 => 113
    | 127 => 133
    | 164 => 134
    | 80 => 98
    | n => n
  g n := n
theorem Try.laysRepeat : Lays.n105 Try.prog Try.laysRepeat_ren where
  mixed := by kernel_rfl
  f99 := Try.func71.trans (congrArg some (show Try.f71 = Body.n99 Try.laysRepeat_ren by kernel_rfl))
  f105 := Try.func57.trans (congrArg some (show Try.f57 = Body.n105 Try.laysRepeat_ren by kernel_rfl))
  f165 := Try.func72.trans (congrArg some (show Try.f72 = Body.n165 Try.laysRepeat_ren by kernel_rfl))
  f166 := Try.func73.trans (congrArg some (show Try.f73 = Body.n166 Try.laysRepeat_ren by kernel_rfl))
  f169 := Try.func75.trans (congrArg some (show Try.f75 = Body.n169 Try.laysRepeat_ren by kernel_rfl))
  f170 := Try.func74.trans (congrArg some (show Try.f74 = Body.n170 Try.laysRepeat_ren by kernel_rfl))
  f206 := Try.func90.trans (congrArg some (show Try.f90 = Body.n206 Try.laysRepeat_ren by kernel_rfl))
  f212 := Try.func70.trans (congrArg some (show Try.f70 = Body.n212 Try.laysRepeat_ren by kernel_rfl))
  f240 := Try.func91.trans (congrArg some (show Try.f91 = Body.n240 Try.laysRepeat_ren by kernel_rfl))
  f241 := Try.func92.trans (congrArg some (show Try.f92 = Body.n241 Try.laysRepeat_ren by kernel_rfl))
  f263 := Try.func88.trans (congrArg some (show Try.f88 = Body.n263 Try.laysRepeat_ren by kernel_rfl))
  f264 := Try.func89.trans (congrArg some (show Try.f89 = Body.n264 Try.laysRepeat_ren by kernel_rfl))
  f276 := Try.func93.trans (congrArg some (show Try.f93 = Body.n276 Try.laysRepeat_ren by kernel_rfl))
  f277 := Try.func94.trans (congrArg some (show Try.f94 = Body.n277 Try.laysRepeat_ren by kernel_rfl))
  t0 := Try.underlying0
  a0 := Try.isAgg0
  z0 := Try.sizeOf0
  v0 := Try.zeroValue0
  t3 := Try.underlying3
  a3 := Try.isAgg3
  z3 := Try.sizeOf3
  v3 := Try.zeroValue3
  t4 := Try.underlying4
  a4 := Try.isAgg4
  z4 := Try.sizeOf4
  v4 := Try.zeroValue4
  t5 := Try.underlying5
  a5 := Try.isAgg5
  z5 := Try.sizeOf5
  v5 := Try.zeroValue5
  t9 := Try.underlying9
  a9 := Try.isAgg9
  z9 := Try.sizeOf9
  v9 := Try.zeroValue9
  t20 := Try.underlying20
  a20 := Try.isAgg20
  z20 := Try.sizeOf20
  v20 := Try.zeroValue20
  t37 := Try.underlying44
  a37 := Try.isAgg44
  z37 := Try.sizeOf44
  v37 := Try.zeroValue44
  t46 := Try.underlying104
  a46 := Try.isAgg104
  z46 := Try.sizeOf104
  v46 := Try.zeroValue104
  t51 := Try.underlying127
  a51 := Try.isAgg127
  z51 := Try.sizeOf127
  v51 := Try.zeroValue127
  t53 := Try.underlying130
  a53 := Try.isAgg130
  z53 := Try.sizeOf130
  v53 := Try.zeroValue130
  t70 := Try.underlying108
  a70 := Try.isAgg108
  z70 := Try.sizeOf108
  v70 := Try.zeroValue108
  t72 := Try.underlying110
  a72 := Try.isAgg110
  z72 := Try.sizeOf110
  v72 := Try.zeroValue110
  t75 := Try.underlying113
  a75 := Try.isAgg113
  z75 := Try.sizeOf113
  v75 := Try.zeroValue113
  t76 := Try.underlying114
  a76 := Try.isAgg114
  z76 := Try.sizeOf114
  v76 := Try.zeroValue114
  t109 := Try.underlying105
  a109 := Try.isAgg105
  z109 := Try.sizeOf105
  v109 := Try.zeroValue105
  t127 := Try.underlying133
  a127 := Try.isAgg133
  z127 := Try.sizeOf133
  v127 := Try.zeroValue133
  t146 := Try.underlying128
  a146 := Try.isAgg128
  z146 := Try.sizeOf128
  v146 := Try.zeroValue128
  t148 := Try.underlying131
  a148 := Try.isAgg131
  z148 := Try.sizeOf131
  v148 := Try.zeroValue131
  t164 := Try.underlying134
  a164 := Try.isAgg134
  z164 := Try.sizeOf134
  v164 := Try.zeroValue134
theorem Try.extra : Builder.Extra Try.prog Try.laysRepeat_ren where
  sizeBuilder := by kernel_rfl
  liesBuilder := by kernel_rfl
  t5 := Try.laysRepeat.t5
  a5 := Try.laysRepeat.a5
  z5 := Try.laysRepeat.z5
  v5 := Try.laysRepeat.v5
  infoByte := by kernel_rfl
  cellsByte := by kernel_rfl
  sizeByte := by kernel_rfl
  neB5 := by decide
theorem Try.fRepeat : Try.laysRepeat_ren.f 105 = 57 := by kernel_rfl
theorem Try.goRepeat : Lk.isGo Try.prog 57 = true := by kernel_rfl
theorem Try.repeat_ok (s : List UInt8) (c : Nat) (hc : s.length * c ≤ 140737488355328) (h64 : c ≤ 9223372036854775807) : Lk.FnOk Try.prog 57 [.one (.str s), .one (.int .i64 (c : Int))] [.one (.im (.str (Lib.repeatL s c)))] := by
  refine ⟨Try.goRepeat, fun O vs w hO hvs hargs => ?_⟩
  obtain ⟨u0, h0, r0⟩ := hargs 0 _ rfl
  obtain ⟨u1, h1, r1⟩ := hargs 1 _ rfl
  have e0 : u0 = .string ⟨⟨s⟩⟩ := r0
  have e1 : u1 = .int .i64 (c : Int) := r1
  subst e0 e1
  have hv : vs = #[.string ⟨⟨s⟩⟩, .int .i64 (c : Int)] := by
    have hl : vs.size = 2 := hvs
    apply Array.ext_getElem?
    intro i
    match i with
    | 0 => simpa using h0
    | 1 => simpa using h1
    | i + 2 => simp [hl]
  subst hv
  have h := Any.strings_Repeat Try.laysRepeat Try.extra ⟨⟨s⟩⟩ c w h64 (by show s.length * c ≤ _; exact hc)
  rw [Try.fRepeat] at h
  refine h.mono fun e w' ⟨he, hw⟩ => ⟨_, he, hw, #[.string ⟨(Lib.repeatL s c).toArray⟩], fun _ => none, ⟨rfl, rfl⟩, ?_, ?_, ?_⟩
  · intro t b h
    cases h
  · intro t t' b h
    cases h
  · intro i r hi
    cases i with
    | zero =>
      simp only [List.getElem?_cons_zero, Option.some.injEq] at hi
      subst hi
      exact ⟨_, rfl, rfl, rfl⟩
    | succ i => simp at hi
end Go.Proofs
