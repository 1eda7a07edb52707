/- For all arguments JournalWhole returns true, and the arguments read behind the call as they read before: no condition. -/
import Derived.Test.YtihjalnebgjmgaaW12y
import Derived.Test.YtihjalnebgjmgaaR12b
namespace Go.Proofs.Ytihjalnebgjmgaa
open Go.ChangeShapes Go.WideShapes Go.ChangeAt Go.RowKit Lk Lk.C Lk.S03 Lk.S12

theorem kCalm : law12_calm_k Try.prog F12 := by unfold law12_calm_k; kernel_rfl
theorem kOld : law12_old_k Try.prog F12 := by unfold law12_old_k; kernel_rfl
theorem kWhole : law12_JournalWhole_k Try.prog F12 := by unfold law12_JournalWhole_k; kernel_rfl
theorem args_journalWhole (ps : List PV) (h : SPs Try.prog 4 [22, 5, 9, 5, 56, 5, 56] ps) : FnOk Try.prog 8 ps [.one (.im (.bool true))] := by
  obtain ⟨a0, p0, q0, w0, e0, r0, h0⟩ := h.enc1 (EList EStr) rfl shStrs agStrs
  obtain ⟨a1, p1, q1, w1, e1, r1, h1⟩ := h0.enc1 EU8 rfl shU8 agU8
  obtain ⟨a2, p2, q2, w2, e2, r2, h2⟩ := h1.enc1 EStr rfl shStr agStr
  obtain ⟨a3, p3, q3, w3, e3, r3, h3⟩ := h2.enc1 EU8 rfl shU8 agU8
  obtain ⟨a4, p4, q4, w4, e4, r4, h4⟩ := h3.enc1 (EList EInt) rfl shInts agInts
  obtain ⟨a5, p5, q5, w5, e5, r5, h5⟩ := h4.enc1 EU8 rfl shU8 agU8
  obtain ⟨a6, p6, q6, w6, e6, r6, h6⟩ := h5.enc1 (EList EInt) rfl shInts agInts
  have rn := h6.nil'
  subst r0 r1 r2 r3 r4 r5 r6 rn
  exact (journalWhole_law k12 kRef kCalm kOld kWhole a0 a1 a2 a3 a4 a5 a6 w0.2 w2 w4.2 w6.2).args (.cons e0 (.cons e1 (.cons e2 (.cons e3 (.cons e4 (.cons e5 (.cons e6 .nil)))))))

set_option maxRecDepth 100000 in
theorem journalWhole_lifted (os : Os) (started : os.Started) (H : Type) (enc : TypeId × Value → H) :
    ReturnsInHanded {} Try.checked os 8 .any (Rows.journalWholeSpec.pre6 enc Try.prog Try.f8 Rows.journalWholeRow.domain false) (Rows.journalWholeSpec.post enc Try.prog Try.f8 false true false false) := by
  refine returnsInHanded_of_change (C := Try.checked) ownGod started (by kernel_rfl) Try.func8
    (ChangeSpec.witness6 (enc := enc) (C := Try.checked) false ⟨#[], #[.slice none 0 0, .int .u8 0, .string ⟨⟨[]⟩⟩, .int .u8 0, .slice none 0 0, .int .u8 0, .slice none 0 0], []⟩ 8 (by kernel_rfl) (by kernel_rfl) (by kernel_rfl) (by kernel_rfl)) ?_
  intro W base args ds gs before hval hW _ _
  exact law_call (n := 4) (fn := Try.f8) (s := Rows.journalWholeSpec) laidAll (by kernel_rfl) rfl Try.underlying4 rfl
    (fun ds hd => by match ds, hd with | [d0, d1, d2, d3, d4, d5, d6], _ => rfl) (fun ps hp => args_journalWhole ps hp) hval hW

theorem journalWhole_holds : Rows.JournalWholeSaid :=
  OpenClaim.holds_of_wide 8 Try.f8 rfl rfl rfl rfl rfl rfl rfl ⟨rfl, rfl, rfl, rfl, rfl⟩ rfl rfl rfl rfl rfl (by kernel_rfl) Try.func8 (by kernel_rfl)
    (of_decide_eq_true (by kernel_rfl)) (by unfold Func.isWrapper; first | (rw [if_pos (by decide +kernel)]; kernel_rfl) | (rw [if_neg (by decide +kernel)]; exact ⟨rfl, rfl⟩))
    (fun os started H enc _ => journalWhole_lifted os started H enc)
#print axioms journalWhole_holds
end Go.Proofs.Ytihjalnebgjmgaa
