/- For every list of pages and every list of strings JournalMany returns true, and the arguments read behind the call as they read before: no condition. -/
import Derived.Test.YtihjalnebgjmgaaW12v
import Derived.Test.YtihjalnebgjmgaaR12b
namespace Go.Proofs.Ytihjalnebgjmgaa
open Go.ChangeShapes Go.WideShapes Go.ChangeAt Go.RowKit Lk Lk.C Lk.S03 Lk.S12

theorem kMany : law12_JournalMany_k Try.prog F12 := by unfold law12_JournalMany_k; kernel_rfl
theorem args_journalMany (ps : List PV) (h : SPs Try.prog 4 [44, 22] ps) : FnOk Try.prog 4 ps [.one (.im (.bool true))] := by
  obtain ⟨a0, p0, q0, w0, e0, r0, h0⟩ := h.enc1 (EList EU8) rfl shU8s agU8s
  obtain ⟨a1, p1, q1, w1, e1, r1, h1⟩ := h0.enc1 (EList EStr) rfl shStrs agStrs
  have rn := h1.nil'
  subst r0 r1 rn
  exact (journalMany_law k12 kMany a0 a1 w0.2 w1.2 w1.1).args (.cons e0 (.cons e1 .nil))

set_option maxRecDepth 100000 in
theorem journalMany_lifted (os : Os) (started : os.Started) (H : Type) (enc : TypeId × Value → H) :
    ReturnsInHanded {} Try.checked os 4 .any (Rows.journalManySpec.pre6 enc Try.prog Try.f4 Rows.journalManyRow.domain false) (Rows.journalManySpec.post enc Try.prog Try.f4 false true false false) := by
  refine returnsInHanded_of_change (C := Try.checked) ownGod started (by kernel_rfl) Try.func4
    (ChangeSpec.witness6 (enc := enc) (C := Try.checked) false ⟨#[], #[.slice none 0 0, .slice none 0 0], []⟩ 8 (by kernel_rfl) (by kernel_rfl) (by kernel_rfl) (by kernel_rfl)) ?_
  intro W base args ds gs before hval hW _ _
  exact law_call (n := 4) (fn := Try.f4) (s := Rows.journalManySpec) laidAll (by kernel_rfl) rfl Try.underlying4 rfl
    (fun ds hd => by match ds, hd with | [d0, d1], _ => rfl) (fun ps hp => args_journalMany ps hp) hval hW

theorem journalMany_holds : Rows.JournalManySaid :=
  OpenClaim.holds_of_wide 4 Try.f4 rfl rfl rfl rfl rfl rfl rfl ⟨rfl, rfl, rfl, rfl, rfl⟩ rfl rfl rfl rfl rfl (by kernel_rfl) Try.func4 (by kernel_rfl)
    (of_decide_eq_true (by kernel_rfl)) (by unfold Func.isWrapper; first | (rw [if_pos (by decide +kernel)]; kernel_rfl) | (rw [if_neg (by decide +kernel)]; exact ⟨rfl, rfl⟩))
    (fun os started H enc _ => journalMany_lifted os started H enc)
#print axioms journalMany_holds
end Go.Proofs.Ytihjalnebgjmgaa
