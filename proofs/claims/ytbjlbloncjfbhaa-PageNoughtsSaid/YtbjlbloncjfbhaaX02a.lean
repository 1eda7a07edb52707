/-
  strings.Repeat at this seat: the shelf's contract, as the machine's.
-/
import Derived.Test.YtbjlbloncjfbhaaChecked
import Derived.Shelf.Strings.Repeat
import Derived.Test.YtbjlbloncjfbhaaLkC
import Derived.KernelRfl
namespace Go.Proofs
open Go.Shelf Go.RowKit

def Try.laysRepeat_ren : Ren where
  f x := match x with
    | 105 => 19
    | 212 => 25
    | 99 => 26
    | 165 => 27
    | 166 => 28
    | 170 => 29
    | 169 => 30
    | 263 => 31
    | 264 => 32
    | 206 => 33
    | 240 => 34
    | 241 => 35
    | 276 => 36
    | 277 => 37
    | n => n
  t x := match x with
    | 9 => 9
    | 3 => 3
    | 4 => 4
    | 20 => 20
    | 0 => 0
    | 46 => 51
    | 109 => 52
    | 5 => 5
    | 72 => 57
    | 76 => 61
    | 51 => 38
    | 146 => 65
    | 53 => 67
    | 148 => 68
    | 70 => 55
    | 37 => 35
    | 75 => 60
    | 127 => 70
    | 164 => 71
    | 80 => 64
    | n => n
  g n := n

theorem Try.laysRepeat : Lays.n105 Try.prog Try.laysRepeat_ren where
  mixed := by kernel_rfl
  f99 := Try.func26.trans (congrArg some (show Try.f26 = Body.n99 Try.laysRepeat_ren by kernel_rfl))
  f105 := Try.func19.trans (congrArg some (show Try.f19 = Body.n105 Try.laysRepeat_ren by kernel_rfl))
  f165 := Try.func27.trans (congrArg some (show Try.f27 = Body.n165 Try.laysRepeat_ren by kernel_rfl))
  f166 := Try.func28.trans (congrArg some (show Try.f28 = Body.n166 Try.laysRepeat_ren by kernel_rfl))
  f169 := Try.func30.trans (congrArg some (show Try.f30 = Body.n169 Try.laysRepeat_ren by kernel_rfl))
  f170 := Try.func29.trans (congrArg some (show Try.f29 = Body.n170 Try.laysRepeat_ren by kernel_rfl))
  f206 := Try.func33.trans (congrArg some (show Try.f33 = Body.n206 Try.laysRepeat_ren by kernel_rfl))
  f212 := Try.func25.trans (congrArg some (show Try.f25 = Body.n212 Try.laysRepeat_ren by kernel_rfl))
  f240 := Try.func34.trans (congrArg some (show Try.f34 = Body.n240 Try.laysRepeat_ren by kernel_rfl))
  f241 := Try.func35.trans (congrArg some (show Try.f35 = Body.n241 Try.laysRepeat_ren by kernel_rfl))
  f263 := Try.func31.trans (congrArg some (show Try.f31 = Body.n263 Try.laysRepeat_ren by kernel_rfl))
  f264 := Try.func32.trans (congrArg some (show Try.f32 = Body.n264 Try.laysRepeat_ren by kernel_rfl))
  f276 := Try.func36.trans (congrArg some (show Try.f36 = Body.n276 Try.laysRepeat_ren by kernel_rfl))
  f277 := Try.func37.trans (congrArg some (show Try.f37 = Body.n277 Try.laysRepeat_ren by kernel_rfl))
  t0 := Try.underlying0
  a0 := Try.isAgg0
  z0 := Try.sizeOf0
  v0 := Try.zeroValue0
  t3 := Try.underlying3
  a3 := Try.isAgg3
  z3 := Try.sizeOf3
  v3 := Try.zeroValue3
  t4 := Try.underlying4
  a4 := Try.isAgg4
  z4 := Try.sizeOf4
  v4 := Try.zeroValue4
  t5 := Try.underlying5
  a5 := Try.isAgg5
  z5 := Try.sizeOf5
  v5 := Try.zeroValue5
  t9 := Try.underlying9
  a9 := Try.isAgg9
  z9 := Try.sizeOf9
  v9 := Try.zeroValue9
  t20 := Try.underlying20
  a20 := Try.isAgg20
  z20 := Try.sizeOf20
  v20 := Try.zeroValue20
  t37 := Try.underlying35
  a37 := Try.isAgg35
  z37 := Try.sizeOf35
  v37 := Try.zeroValue35
  t46 := Try.underlying51
  a46 := Try.isAgg51
  z46 := Try.sizeOf51
  v46 := Try.zeroValue51
  t51 := Try.underlying38
  a51 := Try.isAgg38
  z51 := Try.sizeOf38
  v51 := Try.zeroValue38
  t53 := Try.underlying67
  a53 := Try.isAgg67
  z53 := Try.sizeOf67
  v53 := Try.zeroValue67
  t70 := Try.underlying55
  a70 := Try.isAgg55
  z70 := Try.sizeOf55
  v70 := Try.zeroValue55
  t72 := Try.underlying57
  a72 := Try.isAgg57
  z72 := Try.sizeOf57
  v72 := Try.zeroValue57
  t75 := Try.underlying60
  a75 := Try.isAgg60
  z75 := Try.sizeOf60
  v75 := Try.zeroValue60
  t76 := Try.underlying61
  a76 := Try.isAgg61
  z76 := Try.sizeOf61
  v76 := Try.zeroValue61
  t109 := Try.underlying52
  a109 := Try.isAgg52
  z109 := Try.sizeOf52
  v109 := Try.zeroValue52
  t127 := Try.underlying70
  a127 := Try.isAgg70
  z127 := Try.sizeOf70
  v127 := Try.zeroValue70
  t146 := Try.underlying65
  a146 := Try.isAgg65
  z146 := Try.sizeOf65
  v146 := Try.zeroValue65
  t148 := Try.underlying68
  a148 := Try.isAgg68
  z148 := Try.sizeOf68
  v148 := Try.zeroValue68
  t164 := Try.underlying71
  a164 := Try.isAgg71
  z164 := Try.sizeOf71
  v164 := Try.zeroValue71

theorem Try.extra : Builder.Extra Try.prog Try.laysRepeat_ren where
  sizeBuilder := by kernel_rfl
  liesBuilder := by kernel_rfl
  t5 := Try.laysRepeat.t5
  a5 := Try.laysRepeat.a5
  z5 := Try.laysRepeat.z5
  v5 := Try.laysRepeat.v5
  infoByte := by kernel_rfl
  cellsByte := by kernel_rfl
  sizeByte := by kernel_rfl
  neB5 := by decide
theorem Try.fRepeat : Try.laysRepeat_ren.f 105 = 19 := by kernel_rfl
theorem Try.goRepeat : Lk.isGo Try.prog 19 = true := by kernel_rfl

theorem Try.repeat_ok (s : List UInt8) (c : Nat) (hc : s.length * c ≤ 140737488355328) (h64 : c ≤ 9223372036854775807) : Lk.FnOk Try.prog 19 [.one (.str s), .one (.int .i64 (c : Int))] [.one (.im (.str (Lib.repeatL s c)))] := by
  refine ⟨Try.goRepeat, fun O vs w hO hvs hargs => ?_⟩
  obtain ⟨u0, h0, r0⟩ := hargs 0 _ rfl
  obtain ⟨u1, h1, r1⟩ := hargs 1 _ rfl
  have e0 : u0 = .string ⟨⟨s⟩⟩ := r0
  have e1 : u1 = .int .i64 (c : Int) := r1
  subst e0 e1
  have hv : vs = #[.string ⟨⟨s⟩⟩, .int .i64 (c : Int)] := by
    have hl : vs.size = 2 := hvs
    apply Array.ext_getElem?
    intro i
    match i with
    | 0 => simpa using h0
    | 1 => simpa using h1
    | i + 2 => simp [hl]
  subst hv
  have h := Any.strings_Repeat Try.laysRepeat Try.extra ⟨⟨s⟩⟩ c w h64 (by show s.length * c ≤ _; exact hc)
  rw [Try.fRepeat] at h
  refine h.mono fun e w' ⟨he, hw⟩ => ⟨_, he, hw, #[.string ⟨(Lib.repeatL s c).toArray⟩], fun _ => none, ⟨rfl, rfl⟩, ?_, ?_, ?_⟩
  · intro t b h
    cases h
  · intro t t' b h
    cases h
  · intro i r hi
    cases i with
    | zero =>
      simp only [List.getElem?_cons_zero, Option.some.injEq] at hi
      subst hi
      exact ⟨_, rfl, rfl, rfl⟩
    | succ i => simp at hi
end Go.Proofs
