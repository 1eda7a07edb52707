/- For every clock ClockHand returns true, and the argument reads behind the call as it read before: no condition. -/
import Derived.Test.YtdpghfcbkcjecaaW09i
import Derived.Test.YtdpghfcbkcjecaaR09
namespace Go.Proofs.Ytdpghfcbkcjecaa
open Go.ChangeShapes Go.WideShapes Go.ChangeAt Go.RowKit Lk Lk.C Lk.S09

theorem kHand : law09_ClockHand_k Try.prog F09 := by unfold law09_ClockHand_k; kernel_rfl
theorem args_clockHand (ps : List PV) (h : SPs Try.prog 4 [24] ps) : FnOk Try.prog 7 ps [.one (.im (.bool true))] := by
  obtain ⟨a0, p0, q0, w0, e0, r0, h0⟩ := h.enc EClk shClk agClk
  have rn := h0.nil'
  subst r0 rn
  exact (clockHand_law kClock kRef kLaw kHand a0 w0).args (.cons e0 .nil)

set_option maxRecDepth 100000 in
theorem clockHand_lifted (os : Os) (started : os.Started) (H : Type) (enc : TypeId × Value → H) :
    ReturnsInHanded {} Try.checked os 7 .any (Rows.clockHandSpec.pre6 enc Try.prog Try.f7 Rows.clockHandRow.domain false) (Rows.clockHandSpec.post enc Try.prog Try.f7 false true false false) := by
  refine returnsInHanded_of_change (C := Try.checked) ownGod started (by kernel_rfl) Try.func7
    (ChangeSpec.witness6 (enc := enc) (C := Try.checked) false ⟨#[], #[.agg #[.slice none 0 0, .int .i64 0]], []⟩ 8 (by kernel_rfl) (by kernel_rfl) (by kernel_rfl) (by kernel_rfl)) ?_
  intro W base args ds gs before hval hW _ _
  exact law_call (n := 4) (fn := Try.f7) (s := Rows.clockHandSpec) laidAll (by kernel_rfl) rfl Try.underlying4 rfl
    (fun ds hd => by match ds, hd with | [d0], _ => rfl) (fun ps hp => args_clockHand ps hp) hval hW

theorem clockHand_holds : Rows.ClockHandSaid :=
  OpenClaim.holds_of_wide 7 Try.f7 rfl rfl rfl rfl rfl rfl rfl ⟨rfl, rfl, rfl, rfl, rfl⟩ rfl rfl rfl rfl rfl (by kernel_rfl) Try.func7 (by kernel_rfl)
    (of_decide_eq_true (by kernel_rfl)) (by unfold Func.isWrapper; first | (rw [if_pos (by decide +kernel)]; kernel_rfl) | (rw [if_neg (by decide +kernel)]; exact ⟨rfl, rfl⟩))
    (fun os started H enc _ => clockHand_lifted os started H enc)
#print axioms clockHand_holds
end Go.Proofs.Ytdpghfcbkcjecaa
