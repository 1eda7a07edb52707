/- For every two pages PageApart returns true, and the arguments read behind the call as they read before: no condition. -/
import Derived.Test.YtbjlbloncjfbhaaW02g
import Derived.Test.YtbjlbloncjfbhaaR02b
namespace Go.Proofs.Ytbjlbloncjfbhaa
open Go.ChangeShapes Go.WideShapes Go.ChangeAt Go.RowKit Lk Lk.C Lk.S02

theorem kApart : law02_PageApart_k Try.prog F02 := by unfold law02_PageApart_k; kernel_rfl
theorem args_pageApart (ps : List PV) (h : SPs Try.prog 4 [23, 23] ps) : FnOk Try.prog 6 ps [.one (.im (.bool true))] := by
  obtain ⟨a0, p0, q0, w0, e0, r0, h0⟩ := h.enc EPg shPg agPg
  obtain ⟨a1, p1, q1, w1, e1, r1, h1⟩ := h0.enc EPg shPg agPg
  have rn := h1.nil'
  subst r0 r1 rn
  exact (pageApart_law kLaw kApart a0 a1 w0 w1).args (.cons e0 (.cons e1 .nil))

set_option maxRecDepth 100000 in
theorem pageApart_lifted (os : Os) (started : os.Started) (H : Type) (enc : TypeId × Value → H) :
    ReturnsInHanded {} Try.checked os 6 .any (Rows.pageApartSpec.pre6 enc Try.prog Try.f6 Rows.pageApartRow.domain false) (Rows.pageApartSpec.post enc Try.prog Try.f6 false true false false) := by
  refine returnsInHanded_of_change (C := Try.checked) ownGod started (by kernel_rfl) Try.func6
    (ChangeSpec.witness6 (enc := enc) (C := Try.checked) false ⟨#[], #[.agg #[.int .i64 0, .int .i64 0, .string ⟨⟨[]⟩⟩], .agg #[.int .i64 0, .int .i64 0, .string ⟨⟨[]⟩⟩]], []⟩ 8 (by kernel_rfl) (by kernel_rfl) (by kernel_rfl) (by kernel_rfl)) ?_
  intro W base args ds gs before hval hW _ _
  exact law_call (n := 4) (fn := Try.f6) (s := Rows.pageApartSpec) laidAll (by kernel_rfl) rfl Try.underlying4 rfl
    (fun ds hd => by match ds, hd with | [d0, d1], _ => rfl) (fun ps hp => args_pageApart ps hp) hval hW

theorem pageApart_holds : Rows.PageApartSaid :=
  OpenClaim.holds_of_wide 6 Try.f6 rfl rfl rfl rfl rfl rfl rfl ⟨rfl, rfl, rfl, rfl, rfl⟩ rfl rfl rfl rfl rfl (by kernel_rfl) Try.func6 (by kernel_rfl)
    (of_decide_eq_true (by kernel_rfl)) (by unfold Func.isWrapper; first | (rw [if_pos (by decide +kernel)]; kernel_rfl) | (rw [if_neg (by decide +kernel)]; exact ⟨rfl, rfl⟩))
    (fun os started H enc _ => pageApart_lifted os started H enc)
#print axioms pageApart_holds
end Go.Proofs.Ytbjlbloncjfbhaa
