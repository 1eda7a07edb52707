/- For every list of weights, every list of costs and every two steps LanesStretch returns true, and the arguments read behind the call as they read before: no condition. -/
import Derived.Test.YtegfifeichfclaaGs05c
import Derived.Test.YtegfifeichfclaaR05
set_option linter.unusedSimpArgs false
set_option linter.unusedVariables false
namespace Go.Proofs.Ytegfifeichfclaa
open Go.ChangeShapes Go.WideShapes Go.ChangeAt Go.RowKit Lk Lk.C Lk.S05
theorem kStretch : law05_LanesStretch_k Try.prog F05 := by unfold law05_LanesStretch_k; kernel_rfl
theorem args_lanesStretch (ps : List PV) (h : SPs Try.prog 4 [42, 43, 5, 5] ps) : FnOk Try.prog 5 ps [.one (.im (.bool true))] := by
  obtain ⟨a0, p0, q0, w0, e0, r0, h0⟩ := h.enc1 (EList EU8) rfl shU8s agU8s
  obtain ⟨a1, p1, q1, w1, e1, r1, h1⟩ := h0.enc1 (EList (EList EU8)) rfl shU8ss agU8ss
  obtain ⟨a2, p2, q2, w2, e2, r2, h2⟩ := h1.enc1 EU8 rfl shU8 agU8
  obtain ⟨a3, p3, q3, w3, e3, r3, h3⟩ := h2.enc1 EU8 rfl shU8 agU8
  have rn := h3.nil'
  subst r0 r1 r2 r3 rn
  exact (lanesStretch_law k05 kFilled kStretch a0 a1 a2 a3 w0.2 w1.2 (fun l hl => (w1.1 l hl).2)).args (.cons e0 (.cons e1 (.cons e2 (.cons e3 .nil))))
set_option maxRecDepth 100000 in
theorem lanesStretch_lifted (os : Os) (started : os.Started) (H : Type) (enc : TypeId × Value → H) :
    ReturnsInHanded {} Try.checked os 5 .any (Rows.lanesStretchSpec.pre6 enc Try.prog Try.f5 Rows.lanesStretchRow.domain false) (Rows.lanesStretchSpec.post enc Try.prog Try.f5 false true false false) := by
  refine returnsInHanded_of_change (C := Try.checked) ownGod started (by kernel_rfl) Try.func5
    (ChangeSpec.witness6 (enc := enc) (C := Try.checked) false ⟨#[], #[.slice none 0 0, .slice none 0 0, .int .u8 0, .int .u8 0], []⟩ 8 (by kernel_rfl) (by kernel_rfl) (by kernel_rfl) (by kernel_rfl)) ?_
  intro W base args ds gs before hval hW _ _
  exact law_call (n := 4) (fn := Try.f5) (s := Rows.lanesStretchSpec) laidAll (by kernel_rfl) rfl Try.underlying4 rfl
    (fun ds hd => by match ds, hd with | [d0, d1, d2, d3], _ => rfl) (fun ps hp => args_lanesStretch ps hp) hval hW
theorem lanesStretch_holds : Rows.LanesStretchSaid :=
  OpenClaim.holds_of_wide 5 Try.f5 rfl rfl rfl rfl rfl rfl rfl ⟨rfl, rfl, rfl, rfl, rfl⟩ rfl rfl rfl rfl rfl (by kernel_rfl) Try.func5 (by kernel_rfl)
    (of_decide_eq_true (by kernel_rfl)) (by unfold Func.isWrapper; first | (rw [if_pos (by decide +kernel)]; kernel_rfl) | (rw [if_neg (by decide +kernel)]; exact ⟨rfl, rfl⟩))
    (fun os started H enc _ => lanesStretch_lifted os started H enc)
#print axioms lanesStretch_holds
end Go.Proofs.Ytegfifeichfclaa
