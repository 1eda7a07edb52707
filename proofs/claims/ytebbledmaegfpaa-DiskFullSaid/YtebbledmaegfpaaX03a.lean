/-
  strings.Repeat at this seat: the shelf's contract, as the machine's.
-/
import Derived.Test.YtebbledmaegfpaaChecked
import Derived.Shelf.Strings.Repeat
import Derived.Test.YtebbledmaegfpaaLkC
import Derived.KernelRfl
namespace Go.Proofs
open Go.Shelf Go.RowKit

def Try.laysRepeat_ren : Ren where
  f x := match x with
    | 105 => 24
    | 212 => 30
    | 99 => 31
    | 165 => 32
    | 166 => 33
    | 170 => 34
    | 169 => 35
    | 263 => 38
    | 264 => 39
    | 206 => 40
    | 240 => 41
    | 241 => 42
    | 276 => 43
    | 277 => 44
    | n => n
  t x := match x with
    | 9 => 9
    | 3 => 3
    | 4 => 4
    | 20 => 20
    | 0 => 0
    | 46 => 57
    | 109 => 58
    | 5 => 5
    | 72 => 63
    | 76 => 67
    | 51 => 73
    | 146 => 74
    | 53 => 76
    | 148 => 77
    | 70 => 61
    | 37 => 51
    | 75 => 66
    | 127 => 79
    | 164 => 80
    | 80 => 70
    | n => n
  g n := n

theorem Try.laysRepeat : Lays.n105 Try.prog Try.laysRepeat_ren where
  mixed := by kernel_rfl
  f99 := Try.func31.trans (congrArg some (show Try.f31 = Body.n99 Try.laysRepeat_ren by kernel_rfl))
  f105 := Try.func24.trans (congrArg some (show Try.f24 = Body.n105 Try.laysRepeat_ren by kernel_rfl))
  f165 := Try.func32.trans (congrArg some (show Try.f32 = Body.n165 Try.laysRepeat_ren by kernel_rfl))
  f166 := Try.func33.trans (congrArg some (show Try.f33 = Body.n166 Try.laysRepeat_ren by kernel_rfl))
  f169 := Try.func35.trans (congrArg some (show Try.f35 = Body.n169 Try.laysRepeat_ren by kernel_rfl))
  f170 := Try.func34.trans (congrArg some (show Try.f34 = Body.n170 Try.laysRepeat_ren by kernel_rfl))
  f206 := Try.func40.trans (congrArg some (show Try.f40 = Body.n206 Try.laysRepeat_ren by kernel_rfl))
  f212 := Try.func30.trans (congrArg some (show Try.f30 = Body.n212 Try.laysRepeat_ren by kernel_rfl))
  f240 := Try.func41.trans (congrArg some (show Try.f41 = Body.n240 Try.laysRepeat_ren by kernel_rfl))
  f241 := Try.func42.trans (congrArg some (show Try.f42 = Body.n241 Try.laysRepeat_ren by kernel_rfl))
  f263 := Try.func38.trans (congrArg some (show Try.f38 = Body.n263 Try.laysRepeat_ren by kernel_rfl))
  f264 := Try.func39.trans (congrArg some (show Try.f39 = Body.n264 Try.laysRepeat_ren by kernel_rfl))
  f276 := Try.func43.trans (congrArg some (show Try.f43 = Body.n276 Try.laysRepeat_ren by kernel_rfl))
  f277 := Try.func44.trans (congrArg some (show Try.f44 = Body.n277 Try.laysRepeat_ren by kernel_rfl))
  t0 := Try.underlying0
  a0 := Try.isAgg0
  z0 := Try.sizeOf0
  v0 := Try.zeroValue0
  t3 := Try.underlying3
  a3 := Try.isAgg3
  z3 := Try.sizeOf3
  v3 := Try.zeroValue3
  t4 := Try.underlying4
  a4 := Try.isAgg4
  z4 := Try.sizeOf4
  v4 := Try.zeroValue4
  t5 := Try.underlying5
  a5 := Try.isAgg5
  z5 := Try.sizeOf5
  v5 := Try.zeroValue5
  t9 := Try.underlying9
  a9 := Try.isAgg9
  z9 := Try.sizeOf9
  v9 := Try.zeroValue9
  t20 := Try.underlying20
  a20 := Try.isAgg20
  z20 := Try.sizeOf20
  v20 := Try.zeroValue20
  t37 := Try.underlying51
  a37 := Try.isAgg51
  z37 := Try.sizeOf51
  v37 := Try.zeroValue51
  t46 := Try.underlying57
  a46 := Try.isAgg57
  z46 := Try.sizeOf57
  v46 := Try.zeroValue57
  t51 := Try.underlying73
  a51 := Try.isAgg73
  z51 := Try.sizeOf73
  v51 := Try.zeroValue73
  t53 := Try.underlying76
  a53 := Try.isAgg76
  z53 := Try.sizeOf76
  v53 := Try.zeroValue76
  t70 := Try.underlying61
  a70 := Try.isAgg61
  z70 := Try.sizeOf61
  v70 := Try.zeroValue61
  t72 := Try.underlying63
  a72 := Try.isAgg63
  z72 := Try.sizeOf63
  v72 := Try.zeroValue63
  t75 := Try.underlying66
  a75 := Try.isAgg66
  z75 := Try.sizeOf66
  v75 := Try.zeroValue66
  t76 := Try.underlying67
  a76 := Try.isAgg67
  z76 := Try.sizeOf67
  v76 := Try.zeroValue67
  t109 := Try.underlying58
  a109 := Try.isAgg58
  z109 := Try.sizeOf58
  v109 := Try.zeroValue58
  t127 := Try.underlying79
  a127 := Try.isAgg79
  z127 := Try.sizeOf79
  v127 := Try.zeroValue79
  t146 := Try.underlying74
  a146 := Try.isAgg74
  z146 := Try.sizeOf74
  v146 := Try.zeroValue74
  t148 := Try.underlying77
  a148 := Try.isAgg77
  z148 := Try.sizeOf77
  v148 := Try.zeroValue77
  t164 := Try.underlying80
  a164 := Try.isAgg80
  z164 := Try.sizeOf80
  v164 := Try.zeroValue80

theorem Try.extra : Builder.Extra Try.prog Try.laysRepeat_ren where
  sizeBuilder := by kernel_rfl
  liesBuilder := by kernel_rfl
  t5 := Try.laysRepeat.t5
  a5 := Try.laysRepeat.a5
  z5 := Try.laysRepeat.z5
  v5 := Try.laysRepeat.v5
  infoByte := by kernel_rfl
  cellsByte := by kernel_rfl
  sizeByte := by kernel_rfl
  neB5 := by decide
theorem Try.fRepeat : Try.laysRepeat_ren.f 105 = 24 := by kernel_rfl
theorem Try.goRepeat : Lk.isGo Try.prog 24 = true := by kernel_rfl

theorem Try.repeat_ok (s : List UInt8) (c : Nat) (hc : s.length * c ≤ 140737488355328) (h64 : c ≤ 9223372036854775807) : Lk.FnOk Try.prog 24 [.one (.str s), .one (.int .i64 (c : Int))] [.one (.im (.str (Lib.repeatL s c)))] := by
  refine ⟨Try.goRepeat, fun O vs w hO hvs hargs => ?_⟩
  obtain ⟨u0, h0, r0⟩ := hargs 0 _ rfl
  obtain ⟨u1, h1, r1⟩ := hargs 1 _ rfl
  have e0 : u0 = .string ⟨⟨s⟩⟩ := r0
  have e1 : u1 = .int .i64 (c : Int) := r1
  subst e0 e1
  have hv : vs = #[.string ⟨⟨s⟩⟩, .int .i64 (c : Int)] := by
    have hl : vs.size = 2 := hvs
    apply Array.ext_getElem?
    intro i
    match i with
    | 0 => simpa using h0
    | 1 => simpa using h1
    | i + 2 => simp [hl]
  subst hv
  have h := Any.strings_Repeat Try.laysRepeat Try.extra ⟨⟨s⟩⟩ c w h64 (by show s.length * c ≤ _; exact hc)
  rw [Try.fRepeat] at h
  refine h.mono fun e w' ⟨he, hw⟩ => ⟨_, he, hw, #[.string ⟨(Lib.repeatL s c).toArray⟩], fun _ => none, ⟨rfl, rfl⟩, ?_, ?_, ?_⟩
  · intro t b h
    cases h
  · intro t t' b h
    cases h
  · intro i r hi
    cases i with
    | zero =>
      simp only [List.getElem?_cons_zero, Option.some.injEq] at hi
      subst hi
      exact ⟨_, rfl, rfl, rfl⟩
    | succ i => simp at hi
end Go.Proofs
