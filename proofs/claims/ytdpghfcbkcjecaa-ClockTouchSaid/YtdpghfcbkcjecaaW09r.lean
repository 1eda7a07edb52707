/-
  Chapter 9: arguments.
-/
import Derived.Test.YtdpghfcbkcjecaaW09a
import Derived.Test.YtdpghfcbkcjecaaLkC
namespace Lk.S09
open Go Lk Lk.C

def EFrm : Enc Frm where
  sh := [.int .i64, .int .i64, .bool]
  enc := frmE
  wf _ := True
  dec g h := by
    obtain ⟨a, ha, _⟩ := (h 0 _ rfl).intE
    obtain ⟨b, hb, _⟩ := (h 1 _ rfl).intE
    obtain ⟨c, hc⟩ := (h 2 _ rfl).boolE
    refine ⟨⟨a, b, c⟩, trivial, fun j hj => ?_⟩
    have hj : j < 3 := hj
    rcases (show j = 0 ∨ j = 1 ∨ j = 2 by omega) with rfl | rfl | rfl
    · rw [ha]; exact CEq.refl _
    · rw [hb]; exact CEq.refl _
    · rw [hc]; exact CEq.refl _

def EClk : Enc Clk where
  sh := [.sl EFrm.sh, .int .i64]
  enc := clkE
  wf c := c.frames.length ≤ 9223372036854775807
  dec g h := by
    obtain ⟨l, _, hl, he⟩ := EFrm.list (h 0 _ rfl)
    obtain ⟨b, hb, _⟩ := (h 1 _ rfl).intE
    refine ⟨⟨l, b⟩, hl, fun j hj => ?_⟩
    have hj : j < 2 := hj
    rcases (show j = 0 ∨ j = 1 by omega) with rfl | rfl
    · exact he
    · rw [hb]; exact CEq.refl _
end Lk.S09
