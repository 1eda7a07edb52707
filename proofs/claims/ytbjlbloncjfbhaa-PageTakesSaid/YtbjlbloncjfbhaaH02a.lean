/- For every text PageTakes returns true, and the argument reads behind the call as it read before: no condition. -/
import Derived.Test.YtbjlbloncjfbhaaR02
namespace Go.Proofs.Ytbjlbloncjfbhaa
open Go.ChangeShapes Go.WideShapes Go.ChangeAt Go.RowKit Lk Lk.C Lk.S02

theorem kTakes : law02_PageTakes_k Try.prog F02 := by unfold law02_PageTakes_k; kernel_rfl
theorem args_pageTakes (ps : List PV) (h : SPs Try.prog 4 [9] ps) : FnOk Try.prog 4 ps [.one (.im (.bool true))] := by
  obtain ⟨a0, p0, q0, w0, e0, r0, h0⟩ := h.enc1 EStr rfl shStr agStr
  have rn := h0.nil'
  subst r0 rn
  exact (pageTakes_law kLaw kTakes a0 w0).args (.cons e0 .nil)

set_option maxRecDepth 100000 in
theorem pageTakes_lifted (os : Os) (started : os.Started) (H : Type) (enc : TypeId × Value → H) :
    ReturnsInHanded {} Try.checked os 4 .any (Rows.pageTakesSpec.pre6 enc Try.prog Try.f4 Rows.pageTakesRow.domain false) (Rows.pageTakesSpec.post enc Try.prog Try.f4 false true false false) := by
  refine returnsInHanded_of_change (C := Try.checked) ownGod started (by kernel_rfl) Try.func4
    (ChangeSpec.witness6 (enc := enc) (C := Try.checked) false ⟨#[], #[.string ⟨⟨[]⟩⟩], []⟩ 8 (by kernel_rfl) (by kernel_rfl) (by kernel_rfl) (by kernel_rfl)) ?_
  intro W base args ds gs before hval hW _ _
  exact law_call (n := 4) (fn := Try.f4) (s := Rows.pageTakesSpec) laidAll (by kernel_rfl) rfl Try.underlying4 rfl
    (fun ds hd => by match ds, hd with | [d0], _ => rfl) (fun ps hp => args_pageTakes ps hp) hval hW

theorem pageTakes_holds : Rows.PageTakesSaid :=
  OpenClaim.holds_of_wide 4 Try.f4 rfl rfl rfl rfl rfl rfl rfl ⟨rfl, rfl, rfl, rfl, rfl⟩ rfl rfl rfl rfl rfl (by kernel_rfl) Try.func4 (by kernel_rfl)
    (of_decide_eq_true (by kernel_rfl)) (by unfold Func.isWrapper; first | (rw [if_pos (by decide +kernel)]; kernel_rfl) | (rw [if_neg (by decide +kernel)]; exact ⟨rfl, rfl⟩))
    (fun os started H enc _ => pageTakes_lifted os started H enc)
#print axioms pageTakes_holds
end Go.Proofs.Ytbjlbloncjfbhaa
