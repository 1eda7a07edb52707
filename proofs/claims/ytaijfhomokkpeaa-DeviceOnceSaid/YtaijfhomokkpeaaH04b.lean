/- For every list of acts DeviceOnce returns true, and the arguments read behind the call as they read before: no condition. -/
import Derived.Test.YtaijfhomokkpeaaGs04c
import Derived.Test.YtaijfhomokkpeaaR04b
set_option linter.unusedSimpArgs false
set_option linter.unusedVariables false
namespace Go.Proofs.Ytaijfhomokkpeaa
open Go.ChangeShapes Go.WideShapes Go.ChangeAt Go.RowKit Lk Lk.C Lk.S03 Lk.S04
theorem kLaw : law04_DeviceOnce_k Try.prog F04 := by unfold law04_DeviceOnce_k; kernel_rfl
theorem args_deviceOnce (ps : List PV) (h : SPs Try.prog 5 [44] ps) : FnOk Try.prog 4 ps [.one (.im (.bool true))] := by
  obtain ⟨a0, p0, q0, w0, e0, r0, h0⟩ := h.enc1 (EList EU2) rfl shU2s agU2s
  have rn := h0.nil'
  subst r0 rn
  exact (deviceOnce_law kLV kLaw a0 w0.2).args (.cons e0 .nil)
set_option maxRecDepth 100000 in
theorem deviceOnce_lifted (os : Os) (started : os.Started) (H : Type) (enc : TypeId × Value → H) :
    ReturnsInHanded {} Try.checked os 4 .any (Rows.deviceOnceSpec.pre6 enc Try.prog Try.f4 Rows.deviceOnceRow.domain false) (Rows.deviceOnceSpec.post enc Try.prog Try.f4 false true false false) := by
  refine returnsInHanded_of_change (C := Try.checked) ownGod started (by kernel_rfl) Try.func4
    (ChangeSpec.witness6 (enc := enc) (C := Try.checked) false ⟨#[], #[.slice none 0 0], []⟩ 8 (by kernel_rfl) (by kernel_rfl) (by kernel_rfl) (by kernel_rfl)) ?_
  intro W base args ds gs before hval hW _ _
  exact law_call (n := 5) (fn := Try.f4) (s := Rows.deviceOnceSpec) laidAll (by kernel_rfl) rfl Try.underlying4 rfl
    (fun ds hd => by match ds, hd with | [d0], _ => rfl) (fun ps hp => args_deviceOnce ps hp) hval hW
theorem deviceOnce_holds : Rows.DeviceOnceSaid :=
  OpenClaim.holds_of_wide 4 Try.f4 rfl rfl rfl rfl rfl rfl rfl ⟨rfl, rfl, rfl, rfl, rfl⟩ rfl rfl rfl rfl rfl (by kernel_rfl) Try.func4 (by kernel_rfl)
    (of_decide_eq_true (by kernel_rfl)) (by unfold Func.isWrapper; first | (rw [if_pos (by decide +kernel)]; kernel_rfl) | (rw [if_neg (by decide +kernel)]; exact ⟨rfl, rfl⟩))
    (fun os started H enc _ => deviceOnce_lifted os started H enc)
#print axioms deviceOnce_holds
end Go.Proofs.Ytaijfhomokkpeaa
