/- For every list of pages StoreKeeps returns true, and the arguments read behind the call as they read before: no condition. -/
import Derived.Test.YtihjalnebgjmgaaGs13b
import Derived.Test.YtihjalnebgjmgaaR13
set_option linter.unusedSimpArgs false
set_option linter.unusedVariables false
namespace Go.Proofs.Ytihjalnebgjmgaa
open Go.ChangeShapes Go.WideShapes Go.ChangeAt Go.RowKit Lk Lk.C Lk.S03 Lk.S12 Lk.S13
theorem kLaw : law13_StoreKeeps_k Try.prog F12 := by unfold law13_StoreKeeps_k; kernel_rfl
theorem args_storeKeeps (ps : List PV) (h : SPs Try.prog 4 [72] ps) : FnOk Try.prog 11 ps [.one (.im (.bool true))] := by
  obtain ⟨a0, p0, q0, w0, e0, r0, h0⟩ := h.enc1 (EList S13.EPg) rfl shPgs agPgs
  have rn := h0.nil'
  subst r0 rn
  exact (storeKeeps_law k13 kPRef kLaw a0 w0.2 w0.1).args (.cons e0 .nil)
set_option maxRecDepth 100000 in
theorem storeKeeps_lifted (os : Os) (started : os.Started) (H : Type) (enc : TypeId × Value → H) :
    ReturnsInHanded {} Try.checked os 11 .any (Rows.storeKeepsSpec.pre6 enc Try.prog Try.f11 Rows.storeKeepsRow.domain false) (Rows.storeKeepsSpec.post enc Try.prog Try.f11 false true false false) := by
  refine returnsInHanded_of_change (C := Try.checked) ownGod started (by kernel_rfl) Try.func11
    (ChangeSpec.witness6 (enc := enc) (C := Try.checked) false ⟨#[], #[.slice none 0 0], []⟩ 8 (by kernel_rfl) (by kernel_rfl) (by kernel_rfl) (by kernel_rfl)) ?_
  intro W base args ds gs before hval hW _ _
  exact law_call (n := 4) (fn := Try.f11) (s := Rows.storeKeepsSpec) laidAll (by kernel_rfl) rfl Try.underlying4 rfl
    (fun ds hd => by match ds, hd with | [d0], _ => rfl) (fun ps hp => args_storeKeeps ps hp) hval hW
theorem storeKeeps_holds : Rows.StoreKeepsSaid :=
  OpenClaim.holds_of_wide 11 Try.f11 rfl rfl rfl rfl rfl rfl rfl ⟨rfl, rfl, rfl, rfl, rfl⟩ rfl rfl rfl rfl rfl (by kernel_rfl) Try.func11 (by kernel_rfl)
    (of_decide_eq_true (by kernel_rfl)) (by unfold Func.isWrapper; first | (rw [if_pos (by decide +kernel)]; kernel_rfl) | (rw [if_neg (by decide +kernel)]; exact ⟨rfl, rfl⟩))
    (fun os started H enc _ => storeKeeps_lifted os started H enc)
#print axioms storeKeeps_holds
end Go.Proofs.Ytihjalnebgjmgaa
