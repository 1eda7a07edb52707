/- For every list of weights and every list of costs LanesAll returns true, and the arguments read behind the call as they read before: no condition. -/
import Derived.Test.YtegfifeichfclaaGs05d
import Derived.Test.YtegfifeichfclaaR05
set_option linter.unusedSimpArgs false
set_option linter.unusedVariables false
namespace Go.Proofs.Ytegfifeichfclaa
open Go.ChangeShapes Go.WideShapes Go.ChangeAt Go.RowKit Lk Lk.C Lk.S05
theorem shU2s : shT Try.prog 5 50 = [.sl EU2.sh] := by kernel_rfl
theorem agU2s : isAggT Try.prog 50 = false := by kernel_rfl
theorem shU8s5 : shT Try.prog 5 42 = [.sl [.int .u8]] := by kernel_rfl
theorem kAll : law05_LanesAll_k Try.prog F05 := by unfold law05_LanesAll_k; kernel_rfl
theorem args_lanesAll (ps : List PV) (h : SPs Try.prog 5 [42, 50] ps) : FnOk Try.prog 6 ps [.one (.im (.bool true))] := by
  obtain ⟨a0, p0, q0, w0, e0, r0, h0⟩ := h.enc1 (EList EU8) rfl shU8s5 agU8s
  obtain ⟨a1, p1, q1, w1, e1, r1, h1⟩ := h0.enc1 (EList EU2) rfl shU2s agU2s
  have rn := h1.nil'
  subst r0 r1 rn
  exact (lanesAll_law k05 kAll a0 a1 w0.2 w1.2).args (.cons e0 (.cons e1 .nil))
set_option maxRecDepth 100000 in
theorem lanesAll_lifted (os : Os) (started : os.Started) (H : Type) (enc : TypeId × Value → H) :
    ReturnsInHanded {} Try.checked os 6 .any (Rows.lanesAllSpec.pre6 enc Try.prog Try.f6 Rows.lanesAllRow.domain false) (Rows.lanesAllSpec.post enc Try.prog Try.f6 false true false false) := by
  refine returnsInHanded_of_change (C := Try.checked) ownGod started (by kernel_rfl) Try.func6
    (ChangeSpec.witness6 (enc := enc) (C := Try.checked) false ⟨#[], #[.slice none 0 0, .slice none 0 0], []⟩ 8 (by kernel_rfl) (by kernel_rfl) (by kernel_rfl) (by kernel_rfl)) ?_
  intro W base args ds gs before hval hW _ _
  exact law_call (n := 5) (fn := Try.f6) (s := Rows.lanesAllSpec) laidAll (by kernel_rfl) rfl Try.underlying4 rfl
    (fun ds hd => by match ds, hd with | [d0, d1], _ => rfl) (fun ps hp => args_lanesAll ps hp) hval hW
theorem lanesAll_holds : Rows.LanesAllSaid :=
  OpenClaim.holds_of_wide 6 Try.f6 rfl rfl rfl rfl rfl rfl rfl ⟨rfl, rfl, rfl, rfl, rfl⟩ rfl rfl rfl rfl rfl (by kernel_rfl) Try.func6 (by kernel_rfl)
    (of_decide_eq_true (by kernel_rfl)) (by unfold Func.isWrapper; first | (rw [if_pos (by decide +kernel)]; kernel_rfl) | (rw [if_neg (by decide +kernel)]; exact ⟨rfl, rfl⟩))
    (fun os started H enc _ => lanesAll_lifted os started H enc)
#print axioms lanesAll_holds
end Go.Proofs.Ytegfifeichfclaa
