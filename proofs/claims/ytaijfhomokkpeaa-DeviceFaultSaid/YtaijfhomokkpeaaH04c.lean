/- For every device and every place DeviceFault returns true, and the arguments read behind the call as they read before: no condition. -/
import Derived.Test.YtaijfhomokkpeaaGs04b
import Derived.Test.YtaijfhomokkpeaaR04b
set_option linter.unusedSimpArgs false
set_option linter.unusedVariables false
namespace Go.Proofs.Ytaijfhomokkpeaa
open Go.ChangeShapes Go.WideShapes Go.ChangeAt Go.RowKit Lk Lk.C Lk.S03 Lk.S04
theorem kLaw : law04_DeviceFault_k Try.prog F04 := by unfold law04_DeviceFault_k; kernel_rfl
theorem args_deviceFault (ps : List PV) (h : SPs Try.prog 5 [28, 3] ps) : FnOk Try.prog 5 ps [.one (.im (.bool true))] := by
  obtain ⟨a0, p0, q0, w0, e0, r0, h0⟩ := h.enc EDv shDv agDv
  obtain ⟨a1, p1, q1, w1, e1, r1, h1⟩ := h0.enc1 EInt rfl shInt agInt
  have rn := h1.nil'
  subst r0 r1 rn
  exact (deviceFault_law kLV kLaw a0 a1 w0).args (.cons e0 (.cons e1 .nil))
set_option maxRecDepth 100000 in
theorem deviceFault_lifted (os : Os) (started : os.Started) (H : Type) (enc : TypeId × Value → H) :
    ReturnsInHanded {} Try.checked os 5 .any (Rows.deviceFaultSpec.pre6 enc Try.prog Try.f5 Rows.deviceFaultRow.domain false) (Rows.deviceFaultSpec.post enc Try.prog Try.f5 false true false false) := by
  refine returnsInHanded_of_change (C := Try.checked) ownGod started (by kernel_rfl) Try.func5
    (ChangeSpec.witness6 (enc := enc) (C := Try.checked) false ⟨#[], #[.agg #[.slice none 0 0, .slice none 0 0, .int .i64 0, .slice none 0 0], .int .i64 0], []⟩ 8 (by kernel_rfl) (by kernel_rfl) (by kernel_rfl) (by kernel_rfl)) ?_
  intro W base args ds gs before hval hW _ _
  exact law_call (n := 5) (fn := Try.f5) (s := Rows.deviceFaultSpec) laidAll (by kernel_rfl) rfl Try.underlying4 rfl
    (fun ds hd => by match ds, hd with | [d0, d1], _ => rfl) (fun ps hp => args_deviceFault ps hp) hval hW
theorem deviceFault_holds : Rows.DeviceFaultSaid :=
  OpenClaim.holds_of_wide 5 Try.f5 rfl rfl rfl rfl rfl rfl rfl ⟨rfl, rfl, rfl, rfl, rfl⟩ rfl rfl rfl rfl rfl (by kernel_rfl) Try.func5 (by kernel_rfl)
    (of_decide_eq_true (by kernel_rfl)) (by unfold Func.isWrapper; first | (rw [if_pos (by decide +kernel)]; kernel_rfl) | (rw [if_neg (by decide +kernel)]; exact ⟨rfl, rfl⟩))
    (fun os started H enc _ => deviceFault_lifted os started H enc)
#print axioms deviceFault_holds
end Go.Proofs.Ytaijfhomokkpeaa
