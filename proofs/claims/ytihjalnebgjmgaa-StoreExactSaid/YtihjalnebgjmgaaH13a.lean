/- For every disk, page and number StoreExact returns true, and the arguments read behind the call as they read before: no condition. -/
import Derived.Test.YtihjalnebgjmgaaGs13a
import Derived.Test.YtihjalnebgjmgaaR13
set_option linter.unusedSimpArgs false
set_option linter.unusedVariables false
namespace Go.Proofs.Ytihjalnebgjmgaa
open Go.ChangeShapes Go.WideShapes Go.ChangeAt Go.RowKit Lk Lk.C Lk.S03 Lk.S12 Lk.S13
theorem kRefs : law13_refs_k Try.prog F12 := by unfold law13_refs_k; kernel_rfl
theorem kLaw : law13_StoreExact_k Try.prog F12 := by unfold law13_StoreExact_k; kernel_rfl
theorem args_storeExact (ps : List PV) (h : SPs Try.prog 4 [25, 61, 3] ps) : FnOk Try.prog 9 ps [.one (.im (.bool true))] := by
  obtain ⟨a0, p0, q0, w0, e0, r0, h0⟩ := h.enc EDsk shDsk agDsk
  obtain ⟨a1, p1, q1, w1, e1, r1, h1⟩ := h0.enc S13.EPg shPg agPg
  obtain ⟨a2, p2, q2, w2, e2, r2, h2⟩ := h1.enc1 EInt rfl shInt agInt
  have rn := h2.nil'
  subst r0 r1 r2 rn
  exact (storeExact_law k13 kR13 kRefs kLaw a0 a1 a2 w0 w1).args (.cons e0 (.cons e1 (.cons e2 .nil)))
set_option maxRecDepth 100000 in
theorem storeExact_lifted (os : Os) (started : os.Started) (H : Type) (enc : TypeId × Value → H) :
    ReturnsInHanded {} Try.checked os 9 .any (Rows.storeExactSpec.pre6 enc Try.prog Try.f9 Rows.storeExactRow.domain false) (Rows.storeExactSpec.post enc Try.prog Try.f9 false true false false) := by
  refine returnsInHanded_of_change (C := Try.checked) ownGod started (by kernel_rfl) Try.func9
    (ChangeSpec.witness6 (enc := enc) (C := Try.checked) false ⟨#[], #[.agg #[.slice none 0 0, .slice none 0 0], .agg #[.int .i64 0, .int .i64 0, .string ⟨⟨[]⟩⟩], .int .i64 0], []⟩ 8 (by kernel_rfl) (by kernel_rfl) (by kernel_rfl) (by kernel_rfl)) ?_
  intro W base args ds gs before hval hW _ _
  exact law_call (n := 4) (fn := Try.f9) (s := Rows.storeExactSpec) laidAll (by kernel_rfl) rfl Try.underlying4 rfl
    (fun ds hd => by match ds, hd with | [d0, d1, d2], _ => rfl) (fun ps hp => args_storeExact ps hp) hval hW
theorem storeExact_holds : Rows.StoreExactSaid :=
  OpenClaim.holds_of_wide 9 Try.f9 rfl rfl rfl rfl rfl rfl rfl ⟨rfl, rfl, rfl, rfl, rfl⟩ rfl rfl rfl rfl rfl (by kernel_rfl) Try.func9 (by kernel_rfl)
    (of_decide_eq_true (by kernel_rfl)) (by unfold Func.isWrapper; first | (rw [if_pos (by decide +kernel)]; kernel_rfl) | (rw [if_neg (by decide +kernel)]; exact ⟨rfl, rfl⟩))
    (fun os started H enc _ => storeExact_lifted os started H enc)
#print axioms storeExact_holds
end Go.Proofs.Ytihjalnebgjmgaa
