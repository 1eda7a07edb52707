/- For all lists of strings, pages and strings JournalApart returns true, and the arguments read behind the call as they read before: no condition. -/
import Derived.Test.YtihjalnebgjmgaaW12x
import Derived.Test.YtihjalnebgjmgaaR12b
namespace Go.Proofs.Ytihjalnebgjmgaa
open Go.ChangeShapes Go.WideShapes Go.ChangeAt Go.RowKit Lk Lk.C Lk.S03 Lk.S12

theorem kCalm : law12_calm_k Try.prog F12 := by unfold law12_calm_k; kernel_rfl
theorem kApart : law12_JournalApart_k Try.prog F12 := by unfold law12_JournalApart_k; kernel_rfl
theorem args_journalApart (ps : List PV) (h : SPs Try.prog 4 [22, 5, 5, 9, 9] ps) : FnOk Try.prog 7 ps [.one (.im (.bool true))] := by
  obtain ⟨a0, p0, q0, w0, e0, r0, h0⟩ := h.enc1 (EList EStr) rfl shStrs agStrs
  obtain ⟨a1, p1, q1, w1, e1, r1, h1⟩ := h0.enc1 EU8 rfl shU8 agU8
  obtain ⟨a2, p2, q2, w2, e2, r2, h2⟩ := h1.enc1 EU8 rfl shU8 agU8
  obtain ⟨a3, p3, q3, w3, e3, r3, h3⟩ := h2.enc1 EStr rfl shStr agStr
  obtain ⟨a4, p4, q4, w4, e4, r4, h4⟩ := h3.enc1 EStr rfl shStr agStr
  have rn := h4.nil'
  subst r0 r1 r2 r3 r4 rn
  exact (journalApart_law k12 kCalm kApart a0 a1 a2 a3 a4 w0.2 w3 w4).args (.cons e0 (.cons e1 (.cons e2 (.cons e3 (.cons e4 .nil)))))

set_option maxRecDepth 100000 in
theorem journalApart_lifted (os : Os) (started : os.Started) (H : Type) (enc : TypeId × Value → H) :
    ReturnsInHanded {} Try.checked os 7 .any (Rows.journalApartSpec.pre6 enc Try.prog Try.f7 Rows.journalApartRow.domain false) (Rows.journalApartSpec.post enc Try.prog Try.f7 false true false false) := by
  refine returnsInHanded_of_change (C := Try.checked) ownGod started (by kernel_rfl) Try.func7
    (ChangeSpec.witness6 (enc := enc) (C := Try.checked) false ⟨#[], #[.slice none 0 0, .int .u8 0, .int .u8 0, .string ⟨⟨[]⟩⟩, .string ⟨⟨[]⟩⟩], []⟩ 8 (by kernel_rfl) (by kernel_rfl) (by kernel_rfl) (by kernel_rfl)) ?_
  intro W base args ds gs before hval hW _ _
  exact law_call (n := 4) (fn := Try.f7) (s := Rows.journalApartSpec) laidAll (by kernel_rfl) rfl Try.underlying4 rfl
    (fun ds hd => by match ds, hd with | [d0, d1, d2, d3, d4], _ => rfl) (fun ps hp => args_journalApart ps hp) hval hW

theorem journalApart_holds : Rows.JournalApartSaid :=
  OpenClaim.holds_of_wide 7 Try.f7 rfl rfl rfl rfl rfl rfl rfl ⟨rfl, rfl, rfl, rfl, rfl⟩ rfl rfl rfl rfl rfl (by kernel_rfl) Try.func7 (by kernel_rfl)
    (of_decide_eq_true (by kernel_rfl)) (by unfold Func.isWrapper; first | (rw [if_pos (by decide +kernel)]; kernel_rfl) | (rw [if_neg (by decide +kernel)]; exact ⟨rfl, rfl⟩))
    (fun os started H enc _ => journalApart_lifted os started H enc)
#print axioms journalApart_holds
end Go.Proofs.Ytihjalnebgjmgaa
