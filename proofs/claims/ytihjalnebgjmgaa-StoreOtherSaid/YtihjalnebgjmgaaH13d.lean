/- For every disk, page and bool StoreOther returns true, and the arguments read behind the call as they read before: no condition. -/
import Derived.Test.YtihjalnebgjmgaaGs13b
import Derived.Test.YtihjalnebgjmgaaR13
set_option linter.unusedSimpArgs false
set_option linter.unusedVariables false
namespace Go.Proofs.Ytihjalnebgjmgaa
open Go.ChangeShapes Go.WideShapes Go.ChangeAt Go.RowKit Lk Lk.C Lk.S03 Lk.S12 Lk.S13
theorem kLaw : law13_StoreOther_k Try.prog F12 := by unfold law13_StoreOther_k; kernel_rfl
theorem args_storeOther (ps : List PV) (h : SPs Try.prog 4 [25, 61, 4] ps) : FnOk Try.prog 12 ps [.one (.im (.bool true))] := by
  obtain ⟨a0, p0, q0, w0, e0, r0, h0⟩ := h.enc EDsk shDsk agDsk
  obtain ⟨a1, p1, q1, w1, e1, r1, h1⟩ := h0.enc S13.EPg shPg agPg
  obtain ⟨a2, p2, q2, w2, e2, r2, h2⟩ := h1.enc1 EBool rfl shBool agBool
  have rn := h2.nil'
  subst r0 r1 r2 rn
  exact (storeOther_law k13 kR12 kLaw a0 a1 a2 w0 w1).args (.cons e0 (.cons e1 (.cons e2 .nil)))
set_option maxRecDepth 100000 in
theorem storeOther_lifted (os : Os) (started : os.Started) (H : Type) (enc : TypeId × Value → H) :
    ReturnsInHanded {} Try.checked os 12 .any (Rows.storeOtherSpec.pre6 enc Try.prog Try.f12 Rows.storeOtherRow.domain false) (Rows.storeOtherSpec.post enc Try.prog Try.f12 false true false false) := by
  refine returnsInHanded_of_change (C := Try.checked) ownGod started (by kernel_rfl) Try.func12
    (ChangeSpec.witness6 (enc := enc) (C := Try.checked) false ⟨#[], #[.agg #[.slice none 0 0, .slice none 0 0], .agg #[.int .i64 0, .int .i64 0, .string ⟨⟨[]⟩⟩], .bool false], []⟩ 8 (by kernel_rfl) (by kernel_rfl) (by kernel_rfl) (by kernel_rfl)) ?_
  intro W base args ds gs before hval hW _ _
  exact law_call (n := 4) (fn := Try.f12) (s := Rows.storeOtherSpec) laidAll (by kernel_rfl) rfl Try.underlying4 rfl
    (fun ds hd => by match ds, hd with | [d0, d1, d2], _ => rfl) (fun ps hp => args_storeOther ps hp) hval hW
theorem storeOther_holds : Rows.StoreOtherSaid :=
  OpenClaim.holds_of_wide 12 Try.f12 rfl rfl rfl rfl rfl rfl rfl ⟨rfl, rfl, rfl, rfl, rfl⟩ rfl rfl rfl rfl rfl (by kernel_rfl) Try.func12 (by kernel_rfl)
    (of_decide_eq_true (by kernel_rfl)) (by unfold Func.isWrapper; first | (rw [if_pos (by decide +kernel)]; kernel_rfl) | (rw [if_neg (by decide +kernel)]; exact ⟨rfl, rfl⟩))
    (fun os started H enc _ => storeOther_lifted os started H enc)
#print axioms storeOther_holds
end Go.Proofs.Ytihjalnebgjmgaa
