/- For every list of acts SchedOnce returns true, and the arguments read behind the call as they read before: no condition. -/
import Derived.Test.YtaijfhomokkpeaaGs06b
import Derived.Test.YtaijfhomokkpeaaR06
set_option linter.unusedSimpArgs false
set_option linter.unusedVariables false
namespace Go.Proofs.Ytaijfhomokkpeaa
open Go.ChangeShapes Go.WideShapes Go.ChangeAt Go.RowKit Lk Lk.C Lk.S03 Lk.S04 Lk.S06
theorem kOnce : law06_SchedOnce_k Try.prog F04 := by unfold law06_SchedOnce_k; kernel_rfl
theorem args_schedOnce (ps : List PV) (h : SPs Try.prog 5 [65] ps) : FnOk Try.prog 8 ps [.one (.im (.bool true))] := by
  obtain ⟨a0, p0, q0, w0, e0, r0, h0⟩ := h.enc1 (EList EAc) rfl shAcs agAcs
  have rn := h0.nil'
  subst r0 rn
  exact (schedOnce_law kLS kOnce a0 w0).args (.cons e0 .nil)
set_option maxRecDepth 100000 in
theorem schedOnce_lifted (os : Os) (started : os.Started) (H : Type) (enc : TypeId × Value → H) :
    ReturnsInHanded {} Try.checked os 8 .any (Rows.schedOnceSpec.pre6 enc Try.prog Try.f8 Rows.schedOnceRow.domain false) (Rows.schedOnceSpec.post enc Try.prog Try.f8 false true false false) := by
  refine returnsInHanded_of_change (C := Try.checked) ownGod started (by kernel_rfl) Try.func8
    (ChangeSpec.witness6 (enc := enc) (C := Try.checked) false ⟨#[], #[.slice none 0 0], []⟩ 8 (by kernel_rfl) (by kernel_rfl) (by kernel_rfl) (by kernel_rfl)) ?_
  intro W base args ds gs before hval hW _ _
  exact law_call (n := 5) (fn := Try.f8) (s := Rows.schedOnceSpec) laidAll (by kernel_rfl) rfl Try.underlying4 rfl
    (fun ds hd => by match ds, hd with | [d0], _ => rfl) (fun ps hp => args_schedOnce ps hp) hval hW
theorem schedOnce_holds : Rows.SchedOnceSaid :=
  OpenClaim.holds_of_wide 8 Try.f8 rfl rfl rfl rfl rfl rfl rfl ⟨rfl, rfl, rfl, rfl, rfl⟩ rfl rfl rfl rfl rfl (by kernel_rfl) Try.func8 (by kernel_rfl)
    (of_decide_eq_true (by kernel_rfl)) (by unfold Func.isWrapper; first | (rw [if_pos (by decide +kernel)]; kernel_rfl) | (rw [if_neg (by decide +kernel)]; exact ⟨rfl, rfl⟩))
    (fun os started H enc _ => schedOnce_lifted os started H enc)
#print axioms schedOnce_holds
end Go.Proofs.Ytaijfhomokkpeaa
