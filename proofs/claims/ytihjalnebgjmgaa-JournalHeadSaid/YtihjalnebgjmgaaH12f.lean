/- For every list of strings and every head JournalHead returns true, and the arguments read behind the call as they read before: no condition. -/
import Derived.Test.YtihjalnebgjmgaaW12z
import Derived.Test.YtihjalnebgjmgaaR12b
namespace Go.Proofs.Ytihjalnebgjmgaa
open Go.ChangeShapes Go.WideShapes Go.ChangeAt Go.RowKit Lk Lk.C Lk.S03 Lk.S12

theorem kCalm : law12_calm_k Try.prog F12 := by unfold law12_calm_k; kernel_rfl
theorem kHead : law12_JournalHead_k Try.prog F12 := by unfold law12_JournalHead_k; kernel_rfl
theorem sh16 : shT Try.prog 4 53 = E16.sh := by kernel_rfl
theorem ag16 : isAggT Try.prog 53 = true := by kernel_rfl
theorem args_journalHead (ps : List PV) (h : SPs Try.prog 4 [22, 53] ps) : FnOk Try.prog 6 ps [.one (.im (.bool true))] := by
  obtain ⟨a0, p0, q0, w0, e0, r0, h0⟩ := h.enc1 (EList EStr) rfl shStrs agStrs
  obtain ⟨a1, p1, q1, w1, e1, r1, h1⟩ := h0.enc E16 sh16 ag16
  have rn := h1.nil'
  subst r0 r1 rn
  exact (journalHead_law k12 kRef kCalm kHead a0 a1 w0.2 w1).args (.cons e0 (.cons e1 .nil))

set_option maxRecDepth 100000 in
theorem journalHead_lifted (os : Os) (started : os.Started) (H : Type) (enc : TypeId × Value → H) :
    ReturnsInHanded {} Try.checked os 6 .any (Rows.journalHeadSpec.pre6 enc Try.prog Try.f6 Rows.journalHeadRow.domain false) (Rows.journalHeadSpec.post enc Try.prog Try.f6 false true false false) := by
  refine returnsInHanded_of_change (C := Try.checked) ownGod started (by kernel_rfl) Try.func6
    (ChangeSpec.witness6 (enc := enc) (C := Try.checked) false ⟨#[], #[.slice none 0 0, .agg #[.int .u8 0, .int .u8 0, .int .u8 0, .int .u8 0, .int .u8 0, .int .u8 0, .int .u8 0, .int .u8 0, .int .u8 0, .int .u8 0, .int .u8 0, .int .u8 0, .int .u8 0, .int .u8 0, .int .u8 0, .int .u8 0]], []⟩ 8 (by kernel_rfl) (by kernel_rfl) (by kernel_rfl) (by kernel_rfl)) ?_
  intro W base args ds gs before hval hW _ _
  exact law_call (n := 4) (fn := Try.f6) (s := Rows.journalHeadSpec) laidAll (by kernel_rfl) rfl Try.underlying4 rfl
    (fun ds hd => by match ds, hd with | [d0, d1], _ => rfl) (fun ps hp => args_journalHead ps hp) hval hW

theorem journalHead_holds : Rows.JournalHeadSaid :=
  OpenClaim.holds_of_wide 6 Try.f6 rfl rfl rfl rfl rfl rfl rfl ⟨rfl, rfl, rfl, rfl, rfl⟩ rfl rfl rfl rfl rfl (by kernel_rfl) Try.func6 (by kernel_rfl)
    (of_decide_eq_true (by kernel_rfl)) (by unfold Func.isWrapper; first | (rw [if_pos (by decide +kernel)]; kernel_rfl) | (rw [if_neg (by decide +kernel)]; exact ⟨rfl, rfl⟩))
    (fun os started H enc _ => journalHead_lifted os started H enc)
#print axioms journalHead_holds
end Go.Proofs.Ytihjalnebgjmgaa
