/-
  strings.Repeat at this seat: the shelf's contract, as the machine's.
-/
import Derived.Test.YtaijfhomokkpeaaChecked
import Derived.Shelf.Strings.Repeat
import Derived.Test.YtaijfhomokkpeaaLkC
import Derived.KernelRfl
set_option linter.unusedSimpArgs false
set_option maxHeartbeats 8000000
set_option maxRecDepth 100000
set_option linter.unusedVariables false
namespace Go.Proofs
open Go.Shelf Go.RowKit
def Try.laysRepeat_ren : Ren where
  f x := match x with
    | 105 => 76
    | 212 => 87
    | 99 => 88
    | 165 => 89
    | 166 => 90
    | 170 => 91
    | 169 => 92
    | 263 => 97
    | 264 => 98
    | 206 => 99
    | 240 => 100
    | 241 => 101
    | 276 => 103
    | 277 => 104
    | n => n
  t x := match x with
    | 9 => 9
    | 3 => 3
    | 4 => 4
    | 20 => 20
    | 0 => 0
    | 46 => 162
    | 109 => 163
    | 5 => 5
    | 72 => 168
    | 76 => 172
    | 51 => 180
    | 146 => 181
    | 53 => 183
    | 148 => 184
    | 70 => 166
    | 37 => 49
    | 75 => 171
    | 127 => 186
    | 164 => 188
    | 80 => 175
    | n => n
  g n := n
theorem Try.laysRepeat : Lays.n105 Try.prog Try.laysRepeat_ren where
  mixed := by kernel_rfl
  f99 := Try.func88.trans (congrArg some (show Try.f88 = Body.n99 Try.laysRepeat_ren by kernel_rfl))
  f105 := Try.func76.trans (congrArg some (show Try.f76 = Body.n105 Try.laysRepeat_ren by kernel_rfl))
  f165 := Try.func89.trans (congrArg some (show Try.f89 = Body.n165 Try.laysRepeat_ren by kernel_rfl))
  f166 := Try.func90.trans (congrArg some (show Try.f90 = Body.n166 Try.laysRepeat_ren by kernel_rfl))
  f169 := Try.func92.trans (congrArg some (show Try.f92 = Body.n169 Try.laysRepeat_ren by kernel_rfl))
  f170 := Try.func91.trans (congrArg some (show Try.f91 = Body.n170 Try.laysRepeat_ren by kernel_rfl))
  f206 := Try.func99.trans (congrArg some (show Try.f99 = Body.n206 Try.laysRepeat_ren by kernel_rfl))
  f212 := Try.func87.trans (congrArg some (show Try.f87 = Body.n212 Try.laysRepeat_ren by kernel_rfl))
  f240 := Try.func100.trans (congrArg some (show Try.f100 = Body.n240 Try.laysRepeat_ren by kernel_rfl))
  f241 := Try.func101.trans (congrArg some (show Try.f101 = Body.n241 Try.laysRepeat_ren by kernel_rfl))
  f263 := Try.func97.trans (congrArg some (show Try.f97 = Body.n263 Try.laysRepeat_ren by kernel_rfl))
  f264 := Try.func98.trans (congrArg some (show Try.f98 = Body.n264 Try.laysRepeat_ren by kernel_rfl))
  f276 := Try.func103.trans (congrArg some (show Try.f103 = Body.n276 Try.laysRepeat_ren by kernel_rfl))
  f277 := Try.func104.trans (congrArg some (show Try.f104 = Body.n277 Try.laysRepeat_ren by kernel_rfl))
  t0 := Try.underlying0
  a0 := Try.isAgg0
  z0 := Try.sizeOf0
  v0 := Try.zeroValue0
  t3 := Try.underlying3
  a3 := Try.isAgg3
  z3 := Try.sizeOf3
  v3 := Try.zeroValue3
  t4 := Try.underlying4
  a4 := Try.isAgg4
  z4 := Try.sizeOf4
  v4 := Try.zeroValue4
  t5 := Try.underlying5
  a5 := Try.isAgg5
  z5 := Try.sizeOf5
  v5 := Try.zeroValue5
  t9 := Try.underlying9
  a9 := Try.isAgg9
  z9 := Try.sizeOf9
  v9 := Try.zeroValue9
  t20 := Try.underlying20
  a20 := Try.isAgg20
  z20 := Try.sizeOf20
  v20 := Try.zeroValue20
  t37 := Try.underlying49
  a37 := Try.isAgg49
  z37 := Try.sizeOf49
  v37 := Try.zeroValue49
  t46 := Try.underlying162
  a46 := Try.isAgg162
  z46 := Try.sizeOf162
  v46 := Try.zeroValue162
  t51 := Try.underlying180
  a51 := Try.isAgg180
  z51 := Try.sizeOf180
  v51 := Try.zeroValue180
  t53 := Try.underlying183
  a53 := Try.isAgg183
  z53 := Try.sizeOf183
  v53 := Try.zeroValue183
  t70 := Try.underlying166
  a70 := Try.isAgg166
  z70 := Try.sizeOf166
  v70 := Try.zeroValue166
  t72 := Try.underlying168
  a72 := Try.isAgg168
  z72 := Try.sizeOf168
  v72 := Try.zeroValue168
  t75 := Try.underlying171
  a75 := Try.isAgg171
  z75 := Try.sizeOf171
  v75 := Try.zeroValue171
  t76 := Try.underlying172
  a76 := Try.isAgg172
  z76 := Try.sizeOf172
  v76 := Try.zeroValue172
  t109 := Try.underlying163
  a109 := Try.isAgg163
  z109 := Try.sizeOf163
  v109 := Try.zeroValue163
  t127 := Try.underlying186
  a127 := Try.isAgg186
  z127 := Try.sizeOf186
  v127 := Try.zeroValue186
  t146 := Try.underlying181
  a146 := Try.isAgg181
  z146 := Try.sizeOf181
  v146 := Try.zeroValue181
  t148 := Try.underlying184
  a148 := Try.isAgg184
  z148 := Try.sizeOf184
  v148 := Try.zeroValue184
  t164 := Try.underlying188
  a164 := Try.isAgg188
  z164 := Try.sizeOf188
  v164 := Try.zeroValue188
theorem Try.extra : Builder.Extra Try.prog Try.laysRepeat_ren where
  sizeBuilder := by kernel_rfl
  liesBuilder := by kernel_rfl
  t5 := Try.laysRepeat.t5
  a5 := Try.laysRepeat.a5
  z5 := Try.laysRepeat.z5
  v5 := Try.laysRepeat.v5
  infoByte := by kernel_rfl
  cellsByte := by kernel_rfl
  sizeByte := by kernel_rfl
  neB5 := by decide
theorem Try.fRepeat : Try.laysRepeat_ren.f 105 = 76 := by kernel_rfl
theorem Try.goRepeat : Lk.isGo Try.prog 76 = true := by kernel_rfl
theorem Try.repeat_ok (s : List UInt8) (c : Nat) (hc : s.length * c ≤ 140737488355328) (h64 : c ≤ 9223372036854775807) : Lk.FnOk Try.prog 76 [.one (.str s), .one (.int .i64 (c : Int))] [.one (.im (.str (Lib.repeatL s c)))] := by
  refine ⟨Try.goRepeat, fun O vs w hO hvs hargs => ?_⟩
  obtain ⟨u0, h0, r0⟩ := hargs 0 _ rfl
  obtain ⟨u1, h1, r1⟩ := hargs 1 _ rfl
  have e0 : u0 = .string ⟨⟨s⟩⟩ := r0
  have e1 : u1 = .int .i64 (c : Int) := r1
  subst e0 e1
  have hv : vs = #[.string ⟨⟨s⟩⟩, .int .i64 (c : Int)] := by
    have hl : vs.size = 2 := hvs
    apply Array.ext_getElem?
    intro i
    match i with
    | 0 => simpa using h0
    | 1 => simpa using h1
    | i + 2 => simp [hl]
  subst hv
  have h := Any.strings_Repeat Try.laysRepeat Try.extra ⟨⟨s⟩⟩ c w h64 (by show s.length * c ≤ _; exact hc)
  rw [Try.fRepeat] at h
  refine h.mono fun e w' ⟨he, hw⟩ => ⟨_, he, hw, #[.string ⟨(Lib.repeatL s c).toArray⟩], fun _ => none, ⟨rfl, rfl⟩, ?_, ?_, ?_⟩
  · intro t b h
    cases h
  · intro t t' b h
    cases h
  · intro i r hi
    cases i with
    | zero =>
      simp only [List.getElem?_cons_zero, Option.some.injEq] at hi
      subst hi
      exact ⟨_, rfl, rfl, rfl⟩
    | succ i => simp at hi
end Go.Proofs
