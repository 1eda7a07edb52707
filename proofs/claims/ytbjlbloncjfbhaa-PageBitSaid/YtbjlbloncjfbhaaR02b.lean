/-
  Chapter 2's seat: pages as arguments.
-/
import Derived.Test.YtbjlbloncjfbhaaR02
namespace Lk.S02
open Go Lk Lk.C

def EPg : Enc Pg where
  sh := [.int .i64, .int .i64, .str]
  enc := pgE
  wf p := p.body.length ≤ 9223372036854775807
  dec g h := by
    obtain ⟨a, ha, _⟩ := (h 0 _ rfl).intE
    obtain ⟨b, hb, _⟩ := (h 1 _ rfl).intE
    obtain ⟨c, hc, hl⟩ := (h 2 _ rfl).strE
    refine ⟨⟨a, b, c⟩, hl, fun j hj => ?_⟩
    have hj : j < 3 := hj
    rcases (show j = 0 ∨ j = 1 ∨ j = 2 by omega) with rfl | rfl | rfl
    · rw [ha]; exact CEq.refl _
    · rw [hb]; exact CEq.refl _
    · rw [hc]; exact CEq.refl _
end Lk.S02
namespace Go.Proofs.Ytbjlbloncjfbhaa
open Go.ChangeShapes Go.WideShapes Go.ChangeAt Go.RowKit Lk Lk.C Lk.S01 Lk.S02
theorem shPg : shT Try.prog 4 23 = EPg.sh := by kernel_rfl
theorem agPg : isAggT Try.prog 23 = true := by kernel_rfl
theorem shU8 : shT Try.prog 4 5 = [.int .u8] := by kernel_rfl
theorem agU8 : isAggT Try.prog 5 = false := by kernel_rfl
theorem shU32 : shT Try.prog 4 38 = [.int .u32] := by kernel_rfl
theorem agU32 : isAggT Try.prog 38 = false := by kernel_rfl
end Go.Proofs.Ytbjlbloncjfbhaa
