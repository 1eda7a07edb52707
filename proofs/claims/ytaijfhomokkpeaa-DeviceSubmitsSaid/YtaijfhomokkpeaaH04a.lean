/- For every device, every kind, page and data DeviceSubmits returns true, and the arguments read behind the call as they read before: no condition. -/
import Derived.Test.YtaijfhomokkpeaaGs04b
import Derived.Test.YtaijfhomokkpeaaR04b
set_option linter.unusedSimpArgs false
set_option linter.unusedVariables false
namespace Go.Proofs.Ytaijfhomokkpeaa
open Go.ChangeShapes Go.WideShapes Go.ChangeAt Go.RowKit Lk Lk.C Lk.S03 Lk.S04
theorem kLaw : law04_DeviceSubmits_k Try.prog F04 := by unfold law04_DeviceSubmits_k; kernel_rfl
theorem args_deviceSubmits (ps : List PV) (h : SPs Try.prog 5 [28, 3, 3, 9] ps) : FnOk Try.prog 3 ps [.one (.im (.bool true))] := by
  obtain ⟨a0, p0, q0, w0, e0, r0, h0⟩ := h.enc EDv shDv agDv
  obtain ⟨a1, p1, q1, w1, e1, r1, h1⟩ := h0.enc1 EInt rfl shInt agInt
  obtain ⟨a2, p2, q2, w2, e2, r2, h2⟩ := h1.enc1 EInt rfl shInt agInt
  obtain ⟨a3, p3, q3, w3, e3, r3, h3⟩ := h2.enc1 EStr rfl shStr agStr
  have rn := h3.nil'
  subst r0 r1 r2 r3 rn
  exact (deviceSubmits_law kLV kLaw a0 a1 a2 a3 w0 w3).args (.cons e0 (.cons e1 (.cons e2 (.cons e3 .nil))))
set_option maxRecDepth 100000 in
theorem deviceSubmits_lifted (os : Os) (started : os.Started) (H : Type) (enc : TypeId × Value → H) :
    ReturnsInHanded {} Try.checked os 3 .any (Rows.deviceSubmitsSpec.pre6 enc Try.prog Try.f3 Rows.deviceSubmitsRow.domain false) (Rows.deviceSubmitsSpec.post enc Try.prog Try.f3 false true false false) := by
  refine returnsInHanded_of_change (C := Try.checked) ownGod started (by kernel_rfl) Try.func3
    (ChangeSpec.witness6 (enc := enc) (C := Try.checked) false ⟨#[], #[.agg #[.slice none 0 0, .slice none 0 0, .int .i64 0, .slice none 0 0], .int .i64 0, .int .i64 0, .string ⟨⟨[]⟩⟩], []⟩ 8 (by kernel_rfl) (by kernel_rfl) (by kernel_rfl) (by kernel_rfl)) ?_
  intro W base args ds gs before hval hW _ _
  exact law_call (n := 5) (fn := Try.f3) (s := Rows.deviceSubmitsSpec) laidAll (by kernel_rfl) rfl Try.underlying4 rfl
    (fun ds hd => by match ds, hd with | [d0, d1, d2, d3], _ => rfl) (fun ps hp => args_deviceSubmits ps hp) hval hW
theorem deviceSubmits_holds : Rows.DeviceSubmitsSaid :=
  OpenClaim.holds_of_wide 3 Try.f3 rfl rfl rfl rfl rfl rfl rfl ⟨rfl, rfl, rfl, rfl, rfl⟩ rfl rfl rfl rfl rfl (by kernel_rfl) Try.func3 (by kernel_rfl)
    (of_decide_eq_true (by kernel_rfl)) (by unfold Func.isWrapper; first | (rw [if_pos (by decide +kernel)]; kernel_rfl) | (rw [if_neg (by decide +kernel)]; exact ⟨rfl, rfl⟩))
    (fun os started H enc _ => deviceSubmits_lifted os started H enc)
#print axioms deviceSubmits_holds
end Go.Proofs.Ytaijfhomokkpeaa
