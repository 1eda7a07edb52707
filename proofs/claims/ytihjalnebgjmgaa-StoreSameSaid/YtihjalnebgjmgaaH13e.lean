/- For every page StoreSame returns true, and the argument reads behind the call as it read before: no condition. -/
import Derived.Test.YtihjalnebgjmgaaGs13b
import Derived.Test.YtihjalnebgjmgaaR13
set_option linter.unusedSimpArgs false
set_option linter.unusedVariables false
namespace Go.Proofs.Ytihjalnebgjmgaa
open Go.ChangeShapes Go.WideShapes Go.ChangeAt Go.RowKit Lk Lk.C Lk.S03 Lk.S12 Lk.S13
theorem kLaw : law13_StoreSame_k Try.prog F12 := by unfold law13_StoreSame_k; kernel_rfl
theorem args_storeSame (ps : List PV) (h : SPs Try.prog 4 [61] ps) : FnOk Try.prog 13 ps [.one (.im (.bool true))] := by
  obtain ⟨a0, p0, q0, w0, e0, r0, h0⟩ := h.enc S13.EPg shPg agPg
  have rn := h0.nil'
  subst r0 rn
  exact (storeSame_law k13 kRef kPRef kLaw a0 w0).args (.cons e0 .nil)
set_option maxRecDepth 100000 in
theorem storeSame_lifted (os : Os) (started : os.Started) (H : Type) (enc : TypeId × Value → H) :
    ReturnsInHanded {} Try.checked os 13 .any (Rows.storeSameSpec.pre6 enc Try.prog Try.f13 Rows.storeSameRow.domain false) (Rows.storeSameSpec.post enc Try.prog Try.f13 false true false false) := by
  refine returnsInHanded_of_change (C := Try.checked) ownGod started (by kernel_rfl) Try.func13
    (ChangeSpec.witness6 (enc := enc) (C := Try.checked) false ⟨#[], #[.agg #[.int .i64 0, .int .i64 0, .string ⟨⟨[]⟩⟩]], []⟩ 8 (by kernel_rfl) (by kernel_rfl) (by kernel_rfl) (by kernel_rfl)) ?_
  intro W base args ds gs before hval hW _ _
  exact law_call (n := 4) (fn := Try.f13) (s := Rows.storeSameSpec) laidAll (by kernel_rfl) rfl Try.underlying4 rfl
    (fun ds hd => by match ds, hd with | [d0], _ => rfl) (fun ps hp => args_storeSame ps hp) hval hW
theorem storeSame_holds : Rows.StoreSameSaid :=
  OpenClaim.holds_of_wide 13 Try.f13 rfl rfl rfl rfl rfl rfl rfl ⟨rfl, rfl, rfl, rfl, rfl⟩ rfl rfl rfl rfl rfl (by kernel_rfl) Try.func13 (by kernel_rfl)
    (of_decide_eq_true (by kernel_rfl)) (by unfold Func.isWrapper; first | (rw [if_pos (by decide +kernel)]; kernel_rfl) | (rw [if_neg (by decide +kernel)]; exact ⟨rfl, rfl⟩))
    (fun os started H enc _ => storeSame_lifted os started H enc)
#print axioms storeSame_holds
end Go.Proofs.Ytihjalnebgjmgaa
