/- For every disk, page and string JournalPlans returns true, and the arguments read behind the call as they read before: no condition. -/
import Derived.Test.YtihjalnebgjmgaaW12u
import Derived.Test.YtihjalnebgjmgaaR12b
namespace Go.Proofs.Ytihjalnebgjmgaa
open Go.ChangeShapes Go.WideShapes Go.ChangeAt Go.RowKit Lk Lk.C Lk.S03 Lk.S12

theorem kRefs : law12_refs_k Try.prog F12 := by unfold law12_refs_k; kernel_rfl
theorem kPlans : law12_JournalPlans_k Try.prog F12 := by unfold law12_JournalPlans_k; kernel_rfl
theorem args_journalPlans (ps : List PV) (h : SPs Try.prog 4 [25, 3, 9] ps) : FnOk Try.prog 3 ps [.one (.im (.bool true))] := by
  obtain ⟨a0, p0, q0, w0, e0, r0, h0⟩ := h.enc EDsk shDsk agDsk
  obtain ⟨a1, p1, q1, w1, e1, r1, h1⟩ := h0.enc1 EInt rfl shInt agInt
  obtain ⟨a2, p2, q2, w2, e2, r2, h2⟩ := h1.enc1 EStr rfl shStr agStr
  have rn := h2.nil'
  subst r0 r1 r2 rn
  exact (journalPlans_law k12 kR12 kRefs kPlans a0 a1 a2 w0 w2).args (.cons e0 (.cons e1 (.cons e2 .nil)))

set_option maxRecDepth 100000 in
theorem journalPlans_lifted (os : Os) (started : os.Started) (H : Type) (enc : TypeId × Value → H) :
    ReturnsInHanded {} Try.checked os 3 .any (Rows.journalPlansSpec.pre6 enc Try.prog Try.f3 Rows.journalPlansRow.domain false) (Rows.journalPlansSpec.post enc Try.prog Try.f3 false true false false) := by
  refine returnsInHanded_of_change (C := Try.checked) ownGod started (by kernel_rfl) Try.func3
    (ChangeSpec.witness6 (enc := enc) (C := Try.checked) false ⟨#[], #[.agg #[.slice none 0 0, .slice none 0 0], .int .i64 0, .string ⟨⟨[]⟩⟩], []⟩ 8 (by kernel_rfl) (by kernel_rfl) (by kernel_rfl) (by kernel_rfl)) ?_
  intro W base args ds gs before hval hW _ _
  exact law_call (n := 4) (fn := Try.f3) (s := Rows.journalPlansSpec) laidAll (by kernel_rfl) rfl Try.underlying4 rfl
    (fun ds hd => by match ds, hd with | [d0, d1, d2], _ => rfl) (fun ps hp => args_journalPlans ps hp) hval hW

theorem journalPlans_holds : Rows.JournalPlansSaid :=
  OpenClaim.holds_of_wide 3 Try.f3 rfl rfl rfl rfl rfl rfl rfl ⟨rfl, rfl, rfl, rfl, rfl⟩ rfl rfl rfl rfl rfl (by kernel_rfl) Try.func3 (by kernel_rfl)
    (of_decide_eq_true (by kernel_rfl)) (by unfold Func.isWrapper; first | (rw [if_pos (by decide +kernel)]; kernel_rfl) | (rw [if_neg (by decide +kernel)]; exact ⟨rfl, rfl⟩))
    (fun os started H enc _ => journalPlans_lifted os started H enc)
#print axioms journalPlans_holds
end Go.Proofs.Ytihjalnebgjmgaa
