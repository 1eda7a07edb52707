/- For every list of jobs SchedDrains returns true, and the arguments read behind the call as they read before: no condition. -/
import Derived.Test.YtaijfhomokkpeaaGs06b
import Derived.Test.YtaijfhomokkpeaaR06
set_option linter.unusedSimpArgs false
set_option linter.unusedVariables false
namespace Go.Proofs.Ytaijfhomokkpeaa
open Go.ChangeShapes Go.WideShapes Go.ChangeAt Go.RowKit Lk Lk.C Lk.S03 Lk.S04 Lk.S06
theorem kDrains : law06_SchedDrains2_k Try.prog F04 := by unfold law06_SchedDrains2_k; kernel_rfl
theorem args_schedDrains (ps : List PV) (h : SPs Try.prog 5 [70] ps) : FnOk Try.prog 9 ps [.one (.im (.bool true))] := by
  obtain ⟨a0, p0, q0, w0, e0, r0, h0⟩ := h.enc1 (EList EJb) rfl shJs agJs
  have rn := h0.nil'
  subst r0 rn
  exact (schedDrains_law kLS kDrains a0 w0).args (.cons e0 .nil)
set_option maxRecDepth 100000 in
theorem schedDrains_lifted (os : Os) (started : os.Started) (H : Type) (enc : TypeId × Value → H) :
    ReturnsInHanded {} Try.checked os 9 .any (Rows.schedDrainsSpec.pre6 enc Try.prog Try.f9 Rows.schedDrainsRow.domain false) (Rows.schedDrainsSpec.post enc Try.prog Try.f9 false true false false) := by
  refine returnsInHanded_of_change (C := Try.checked) ownGod started (by kernel_rfl) Try.func9
    (ChangeSpec.witness6 (enc := enc) (C := Try.checked) false ⟨#[], #[.slice none 0 0], []⟩ 8 (by kernel_rfl) (by kernel_rfl) (by kernel_rfl) (by kernel_rfl)) ?_
  intro W base args ds gs before hval hW _ _
  exact law_call (n := 5) (fn := Try.f9) (s := Rows.schedDrainsSpec) laidAll (by kernel_rfl) rfl Try.underlying4 rfl
    (fun ds hd => by match ds, hd with | [d0], _ => rfl) (fun ps hp => args_schedDrains ps hp) hval hW
theorem schedDrains_holds : Rows.SchedDrainsSaid :=
  OpenClaim.holds_of_wide 9 Try.f9 rfl rfl rfl rfl rfl rfl rfl ⟨rfl, rfl, rfl, rfl, rfl⟩ rfl rfl rfl rfl rfl (by kernel_rfl) Try.func9 (by kernel_rfl)
    (of_decide_eq_true (by kernel_rfl)) (by unfold Func.isWrapper; first | (rw [if_pos (by decide +kernel)]; kernel_rfl) | (rw [if_neg (by decide +kernel)]; exact ⟨rfl, rfl⟩))
    (fun os started H enc _ => schedDrains_lifted os started H enc)
#print axioms schedDrains_holds
end Go.Proofs.Ytaijfhomokkpeaa
