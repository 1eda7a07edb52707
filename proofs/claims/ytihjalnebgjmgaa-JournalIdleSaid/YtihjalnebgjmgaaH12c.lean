/- For every list of strings, page and string JournalIdle returns true, and the arguments read behind the call as they read before: no condition. -/
import Derived.Test.YtihjalnebgjmgaaW12w
import Derived.Test.YtihjalnebgjmgaaR12b
namespace Go.Proofs.Ytihjalnebgjmgaa
open Go.ChangeShapes Go.WideShapes Go.ChangeAt Go.RowKit Lk Lk.C Lk.S03 Lk.S12

theorem kCalm : law12_calm_k Try.prog F12 := by unfold law12_calm_k; kernel_rfl
theorem kIdle : law12_JournalIdle_k Try.prog F12 := by unfold law12_JournalIdle_k; kernel_rfl
theorem args_journalIdle (ps : List PV) (h : SPs Try.prog 4 [22, 5, 9] ps) : FnOk Try.prog 5 ps [.one (.im (.bool true))] := by
  obtain ⟨a0, p0, q0, w0, e0, r0, h0⟩ := h.enc1 (EList EStr) rfl shStrs agStrs
  obtain ⟨a1, p1, q1, w1, e1, r1, h1⟩ := h0.enc1 EU8 rfl shU8 agU8
  obtain ⟨a2, p2, q2, w2, e2, r2, h2⟩ := h1.enc1 EStr rfl shStr agStr
  have rn := h2.nil'
  subst r0 r1 r2 rn
  exact (journalIdle_law k12 kRef kCalm kIdle a0 a1 a2 w0.2 w2).args (.cons e0 (.cons e1 (.cons e2 .nil)))

set_option maxRecDepth 100000 in
theorem journalIdle_lifted (os : Os) (started : os.Started) (H : Type) (enc : TypeId × Value → H) :
    ReturnsInHanded {} Try.checked os 5 .any (Rows.journalIdleSpec.pre6 enc Try.prog Try.f5 Rows.journalIdleRow.domain false) (Rows.journalIdleSpec.post enc Try.prog Try.f5 false true false false) := by
  refine returnsInHanded_of_change (C := Try.checked) ownGod started (by kernel_rfl) Try.func5
    (ChangeSpec.witness6 (enc := enc) (C := Try.checked) false ⟨#[], #[.slice none 0 0, .int .u8 0, .string ⟨⟨[]⟩⟩], []⟩ 8 (by kernel_rfl) (by kernel_rfl) (by kernel_rfl) (by kernel_rfl)) ?_
  intro W base args ds gs before hval hW _ _
  exact law_call (n := 4) (fn := Try.f5) (s := Rows.journalIdleSpec) laidAll (by kernel_rfl) rfl Try.underlying4 rfl
    (fun ds hd => by match ds, hd with | [d0, d1, d2], _ => rfl) (fun ps hp => args_journalIdle ps hp) hval hW

theorem journalIdle_holds : Rows.JournalIdleSaid :=
  OpenClaim.holds_of_wide 5 Try.f5 rfl rfl rfl rfl rfl rfl rfl ⟨rfl, rfl, rfl, rfl, rfl⟩ rfl rfl rfl rfl rfl (by kernel_rfl) Try.func5 (by kernel_rfl)
    (of_decide_eq_true (by kernel_rfl)) (by unfold Func.isWrapper; first | (rw [if_pos (by decide +kernel)]; kernel_rfl) | (rw [if_neg (by decide +kernel)]; exact ⟨rfl, rfl⟩))
    (fun os started H enc _ => journalIdle_lifted os started H enc)
#print axioms journalIdle_holds
end Go.Proofs.Ytihjalnebgjmgaa
