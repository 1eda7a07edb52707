/- For every device and all faults DeviceOrder returns true, and the arguments read behind the call as they read before: no condition. -/
import Derived.Test.YtaijfhomokkpeaaGs04b
import Derived.Test.YtaijfhomokkpeaaR04b
set_option linter.unusedSimpArgs false
set_option linter.unusedVariables false
namespace Go.Proofs.Ytaijfhomokkpeaa
open Go.ChangeShapes Go.WideShapes Go.ChangeAt Go.RowKit Lk Lk.C Lk.S03 Lk.S04
theorem kLaw : law04_DeviceOrder_k Try.prog F04 := by unfold law04_DeviceOrder_k; kernel_rfl
theorem args_deviceOrder (ps : List PV) (h : SPs Try.prog 5 [28, 5] ps) : FnOk Try.prog 6 ps [.one (.im (.bool true))] := by
  obtain ⟨a0, p0, q0, w0, e0, r0, h0⟩ := h.enc EDv shDv agDv
  obtain ⟨a1, p1, q1, w1, e1, r1, h1⟩ := h0.enc1 EU8 rfl shU8 agU8
  have rn := h1.nil'
  subst r0 r1 rn
  exact (deviceOrder_law kLV kLaw a0 a1 w0).args (.cons e0 (.cons e1 .nil))
set_option maxRecDepth 100000 in
theorem deviceOrder_lifted (os : Os) (started : os.Started) (H : Type) (enc : TypeId × Value → H) :
    ReturnsInHanded {} Try.checked os 6 .any (Rows.deviceOrderSpec.pre6 enc Try.prog Try.f6 Rows.deviceOrderRow.domain false) (Rows.deviceOrderSpec.post enc Try.prog Try.f6 false true false false) := by
  refine returnsInHanded_of_change (C := Try.checked) ownGod started (by kernel_rfl) Try.func6
    (ChangeSpec.witness6 (enc := enc) (C := Try.checked) false ⟨#[], #[.agg #[.slice none 0 0, .slice none 0 0, .int .i64 0, .slice none 0 0], .int .u8 0], []⟩ 8 (by kernel_rfl) (by kernel_rfl) (by kernel_rfl) (by kernel_rfl)) ?_
  intro W base args ds gs before hval hW _ _
  exact law_call (n := 5) (fn := Try.f6) (s := Rows.deviceOrderSpec) laidAll (by kernel_rfl) rfl Try.underlying4 rfl
    (fun ds hd => by match ds, hd with | [d0, d1], _ => rfl) (fun ps hp => args_deviceOrder ps hp) hval hW
theorem deviceOrder_holds : Rows.DeviceOrderSaid :=
  OpenClaim.holds_of_wide 6 Try.f6 rfl rfl rfl rfl rfl rfl rfl ⟨rfl, rfl, rfl, rfl, rfl⟩ rfl rfl rfl rfl rfl (by kernel_rfl) Try.func6 (by kernel_rfl)
    (of_decide_eq_true (by kernel_rfl)) (by unfold Func.isWrapper; first | (rw [if_pos (by decide +kernel)]; kernel_rfl) | (rw [if_neg (by decide +kernel)]; exact ⟨rfl, rfl⟩))
    (fun os started H enc _ => deviceOrder_lifted os started H enc)
#print axioms deviceOrder_holds
end Go.Proofs.Ytaijfhomokkpeaa
