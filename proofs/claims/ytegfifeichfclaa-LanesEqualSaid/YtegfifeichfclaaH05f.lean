/- For every many, every steps and every half LanesEqual returns true: no condition. -/
import Derived.Test.YtegfifeichfclaaGs05c
import Derived.Test.YtegfifeichfclaaR05
set_option linter.unusedSimpArgs false
set_option linter.unusedVariables false
namespace Go.Proofs.Ytegfifeichfclaa
open Go.ChangeShapes Go.WideShapes Go.ChangeAt Go.RowKit Lk Lk.C Lk.S05
theorem kEqual : law05_LanesEqual_k Try.prog F05 := by unfold law05_LanesEqual_k; kernel_rfl
theorem args_lanesEqual (ps : List PV) (h : SPs Try.prog 4 [5, 5, 4] ps) : FnOk Try.prog 8 ps [.one (.im (.bool true))] := by
  obtain ⟨a0, p0, q0, w0, e0, r0, h0⟩ := h.enc1 EU8 rfl shU8 agU8
  obtain ⟨a1, p1, q1, w1, e1, r1, h1⟩ := h0.enc1 EU8 rfl shU8 agU8
  obtain ⟨a2, p2, q2, w2, e2, r2, h2⟩ := h1.enc1 EBool rfl shBool agBool
  have rn := h2.nil'
  subst r0 r1 r2 rn
  exact (lanesEqual_law k05 kEqual a0 a1 a2).args (.cons e0 (.cons e1 (.cons e2 .nil)))
set_option maxRecDepth 100000 in
theorem lanesEqual_lifted (os : Os) (started : os.Started) (H : Type) (enc : TypeId × Value → H) :
    ReturnsInHanded {} Try.checked os 8 .any (Rows.lanesEqualSpec.pre6 enc Try.prog Try.f8 Rows.lanesEqualRow.domain false) (Rows.lanesEqualSpec.post enc Try.prog Try.f8 false true false false) := by
  refine returnsInHanded_of_change (C := Try.checked) ownGod started (by kernel_rfl) Try.func8
    (ChangeSpec.witness6 (enc := enc) (C := Try.checked) false ⟨#[], #[.int .u8 0, .int .u8 0, .bool false], []⟩ 8 (by kernel_rfl) (by kernel_rfl) (by kernel_rfl) (by kernel_rfl)) ?_
  intro W base args ds gs before hval hW _ _
  exact law_call (n := 4) (fn := Try.f8) (s := Rows.lanesEqualSpec) laidAll (by kernel_rfl) rfl Try.underlying4 rfl
    (fun ds hd => by match ds, hd with | [d0, d1, d2], _ => rfl) (fun ps hp => args_lanesEqual ps hp) hval hW
theorem lanesEqual_holds : Rows.LanesEqualSaid :=
  OpenClaim.holds_of_wide 8 Try.f8 rfl rfl rfl rfl rfl rfl rfl ⟨rfl, rfl, rfl, rfl, rfl⟩ rfl rfl rfl rfl rfl (by kernel_rfl) Try.func8 (by kernel_rfl)
    (of_decide_eq_true (by kernel_rfl)) (by unfold Func.isWrapper; first | (rw [if_pos (by decide +kernel)]; kernel_rfl) | (rw [if_neg (by decide +kernel)]; exact ⟨rfl, rfl⟩))
    (fun os started H enc _ => lanesEqual_lifted os started H enc)
#print axioms lanesEqual_holds
end Go.Proofs.Ytegfifeichfclaa
