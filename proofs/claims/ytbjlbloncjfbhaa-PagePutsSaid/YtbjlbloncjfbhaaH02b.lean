/- For every page PagePuts returns true, and the argument reads behind the call as it read before: no condition. -/
import Derived.Test.YtbjlbloncjfbhaaW02f
import Derived.Test.YtbjlbloncjfbhaaR02b
namespace Go.Proofs.Ytbjlbloncjfbhaa
open Go.ChangeShapes Go.WideShapes Go.ChangeAt Go.RowKit Lk Lk.C Lk.S02

theorem kPuts : law02_PagePuts_k Try.prog F02 := by unfold law02_PagePuts_k; kernel_rfl
theorem args_pagePuts (ps : List PV) (h : SPs Try.prog 4 [23] ps) : FnOk Try.prog 3 ps [.one (.im (.bool true))] := by
  obtain ⟨a0, p0, q0, w0, e0, r0, h0⟩ := h.enc EPg shPg agPg
  have rn := h0.nil'
  subst r0 rn
  exact (pagePuts_law kLaw kPuts a0 w0).args (.cons e0 .nil)

set_option maxRecDepth 100000 in
theorem pagePuts_lifted (os : Os) (started : os.Started) (H : Type) (enc : TypeId × Value → H) :
    ReturnsInHanded {} Try.checked os 3 .any (Rows.pagePutsSpec.pre6 enc Try.prog Try.f3 Rows.pagePutsRow.domain false) (Rows.pagePutsSpec.post enc Try.prog Try.f3 false true false false) := by
  refine returnsInHanded_of_change (C := Try.checked) ownGod started (by kernel_rfl) Try.func3
    (ChangeSpec.witness6 (enc := enc) (C := Try.checked) false ⟨#[], #[.agg #[.int .i64 0, .int .i64 0, .string ⟨⟨[]⟩⟩]], []⟩ 8 (by kernel_rfl) (by kernel_rfl) (by kernel_rfl) (by kernel_rfl)) ?_
  intro W base args ds gs before hval hW _ _
  exact law_call (n := 4) (fn := Try.f3) (s := Rows.pagePutsSpec) laidAll (by kernel_rfl) rfl Try.underlying4 rfl
    (fun ds hd => by match ds, hd with | [d0], _ => rfl) (fun ps hp => args_pagePuts ps hp) hval hW

theorem pagePuts_holds : Rows.PagePutsSaid :=
  OpenClaim.holds_of_wide 3 Try.f3 rfl rfl rfl rfl rfl rfl rfl ⟨rfl, rfl, rfl, rfl, rfl⟩ rfl rfl rfl rfl rfl (by kernel_rfl) Try.func3 (by kernel_rfl)
    (of_decide_eq_true (by kernel_rfl)) (by unfold Func.isWrapper; first | (rw [if_pos (by decide +kernel)]; kernel_rfl) | (rw [if_neg (by decide +kernel)]; exact ⟨rfl, rfl⟩))
    (fun os started H enc _ => pagePuts_lifted os started H enc)
#print axioms pagePuts_holds
end Go.Proofs.Ytbjlbloncjfbhaa
