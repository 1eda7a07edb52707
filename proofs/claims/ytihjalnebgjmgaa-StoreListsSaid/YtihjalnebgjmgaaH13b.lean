/- For every disk StoreLists returns true, and the arguments read behind the call as they read before: no condition. -/
import Derived.Test.YtihjalnebgjmgaaGs13a
import Derived.Test.YtihjalnebgjmgaaR13
set_option linter.unusedSimpArgs false
set_option linter.unusedVariables false
namespace Go.Proofs.Ytihjalnebgjmgaa
open Go.ChangeShapes Go.WideShapes Go.ChangeAt Go.RowKit Lk Lk.C Lk.S03 Lk.S12 Lk.S13
theorem kLaw : law13_StoreLists_k Try.prog F12 := by unfold law13_StoreLists_k; kernel_rfl
theorem args_storeLists (ps : List PV) (h : SPs Try.prog 4 [25] ps) : FnOk Try.prog 10 ps [.one (.im (.bool true))] := by
  obtain ⟨a0, p0, q0, w0, e0, r0, h0⟩ := h.enc EDsk shDsk agDsk
  have rn := h0.nil'
  subst r0 rn
  exact (storeLists_law k13 kR13 kLaw a0 w0).args (.cons e0 .nil)
set_option maxRecDepth 100000 in
theorem storeLists_lifted (os : Os) (started : os.Started) (H : Type) (enc : TypeId × Value → H) :
    ReturnsInHanded {} Try.checked os 10 .any (Rows.storeListsSpec.pre6 enc Try.prog Try.f10 Rows.storeListsRow.domain false) (Rows.storeListsSpec.post enc Try.prog Try.f10 false true false false) := by
  refine returnsInHanded_of_change (C := Try.checked) ownGod started (by kernel_rfl) Try.func10
    (ChangeSpec.witness6 (enc := enc) (C := Try.checked) false ⟨#[], #[.agg #[.slice none 0 0, .slice none 0 0]], []⟩ 8 (by kernel_rfl) (by kernel_rfl) (by kernel_rfl) (by kernel_rfl)) ?_
  intro W base args ds gs before hval hW _ _
  exact law_call (n := 4) (fn := Try.f10) (s := Rows.storeListsSpec) laidAll (by kernel_rfl) rfl Try.underlying4 rfl
    (fun ds hd => by match ds, hd with | [d0], _ => rfl) (fun ps hp => args_storeLists ps hp) hval hW
theorem storeLists_holds : Rows.StoreListsSaid :=
  OpenClaim.holds_of_wide 10 Try.f10 rfl rfl rfl rfl rfl rfl rfl ⟨rfl, rfl, rfl, rfl, rfl⟩ rfl rfl rfl rfl rfl (by kernel_rfl) Try.func10 (by kernel_rfl)
    (of_decide_eq_true (by kernel_rfl)) (by unfold Func.isWrapper; first | (rw [if_pos (by decide +kernel)]; kernel_rfl) | (rw [if_neg (by decide +kernel)]; exact ⟨rfl, rfl⟩))
    (fun os started H enc _ => storeLists_lifted os started H enc)
#print axioms storeLists_holds
end Go.Proofs.Ytihjalnebgjmgaa
