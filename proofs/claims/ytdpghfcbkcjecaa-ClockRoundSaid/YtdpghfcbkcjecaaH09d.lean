/- For every list of bools and byte ClockRound returns true, and the arguments read behind the call as they read before: no condition. -/
import Derived.Test.YtdpghfcbkcjecaaW09o
import Derived.Test.YtdpghfcbkcjecaaR09
namespace Go.Proofs.Ytdpghfcbkcjecaa
open Go.ChangeShapes Go.WideShapes Go.ChangeAt Go.RowKit Lk Lk.C Lk.S09

theorem kRound : law09_ClockRound_k Try.prog F09 := by unfold law09_ClockRound_k; kernel_rfl
theorem shBools : shT Try.prog 4 43 = (EList EBool).sh := by kernel_rfl
theorem agBools : isAggT Try.prog 43 = false := by kernel_rfl
theorem shU8 : shT Try.prog 4 5 = [.int .u8] := by kernel_rfl
theorem agU8 : isAggT Try.prog 5 = false := by kernel_rfl
theorem args_clockRound (ps : List PV) (h : SPs Try.prog 4 [43, 5] ps) : FnOk Try.prog 5 ps [.one (.im (.bool true))] := by
  obtain ⟨a0, p0, q0, w0, e0, r0, h0⟩ := h.enc1 (EList EBool) rfl shBools agBools
  obtain ⟨a1, p1, q1, w1, e1, r1, h1⟩ := h0.enc1 EU8 rfl shU8 agU8
  have rn := h1.nil'
  subst r0 r1 rn
  exact (clockRound_law kClock kLaw kRound a0 a1 w0.2).args (.cons e0 (.cons e1 .nil))

set_option maxRecDepth 100000 in
theorem clockRound_lifted (os : Os) (started : os.Started) (H : Type) (enc : TypeId × Value → H) :
    ReturnsInHanded {} Try.checked os 5 .any (Rows.clockRoundSpec.pre6 enc Try.prog Try.f5 Rows.clockRoundRow.domain false) (Rows.clockRoundSpec.post enc Try.prog Try.f5 false true false false) := by
  refine returnsInHanded_of_change (C := Try.checked) ownGod started (by kernel_rfl) Try.func5
    (ChangeSpec.witness6 (enc := enc) (C := Try.checked) false ⟨#[], #[.slice none 0 0, .int .u8 0], []⟩ 8 (by kernel_rfl) (by kernel_rfl) (by kernel_rfl) (by kernel_rfl)) ?_
  intro W base args ds gs before hval hW _ _
  exact law_call (n := 4) (fn := Try.f5) (s := Rows.clockRoundSpec) laidAll (by kernel_rfl) rfl Try.underlying4 rfl
    (fun ds hd => by match ds, hd with | [d0, d1], _ => rfl) (fun ps hp => args_clockRound ps hp) hval hW

theorem clockRound_holds : Rows.ClockRoundSaid :=
  OpenClaim.holds_of_wide 5 Try.f5 rfl rfl rfl rfl rfl rfl rfl ⟨rfl, rfl, rfl, rfl, rfl⟩ rfl rfl rfl rfl rfl (by kernel_rfl) Try.func5 (by kernel_rfl)
    (of_decide_eq_true (by kernel_rfl)) (by unfold Func.isWrapper; first | (rw [if_pos (by decide +kernel)]; kernel_rfl) | (rw [if_neg (by decide +kernel)]; exact ⟨rfl, rfl⟩))
    (fun os started H enc _ => clockRound_lifted os started H enc)
#print axioms clockRound_holds
end Go.Proofs.Ytdpghfcbkcjecaa
