/- For every list of weights, every list of costs and every step LanesFair returns true, and the arguments read behind the call as they read before: no condition. -/
import Derived.Test.YtegfifeichfclaaGs05c
import Derived.Test.YtegfifeichfclaaR05
set_option linter.unusedSimpArgs false
set_option linter.unusedVariables false
namespace Go.Proofs.Ytegfifeichfclaa
open Go.ChangeShapes Go.WideShapes Go.ChangeAt Go.RowKit Lk Lk.C Lk.S05
theorem kFair : law05_LanesFair_k Try.prog F05 := by unfold law05_LanesFair_k; kernel_rfl
theorem args_lanesFair (ps : List PV) (h : SPs Try.prog 4 [42, 43, 5] ps) : FnOk Try.prog 4 ps [.one (.im (.bool true))] := by
  obtain ⟨a0, p0, q0, w0, e0, r0, h0⟩ := h.enc1 (EList EU8) rfl shU8s agU8s
  obtain ⟨a1, p1, q1, w1, e1, r1, h1⟩ := h0.enc1 (EList (EList EU8)) rfl shU8ss agU8ss
  obtain ⟨a2, p2, q2, w2, e2, r2, h2⟩ := h1.enc1 EU8 rfl shU8 agU8
  have rn := h2.nil'
  subst r0 r1 r2 rn
  exact (lanesFair_law k05 kFilled kFair a0 a1 a2 w0.2 w1.2 (fun l hl => (w1.1 l hl).2)).args (.cons e0 (.cons e1 (.cons e2 .nil)))
set_option maxRecDepth 100000 in
theorem lanesFair_lifted (os : Os) (started : os.Started) (H : Type) (enc : TypeId × Value → H) :
    ReturnsInHanded {} Try.checked os 4 .any (Rows.lanesFairSpec.pre6 enc Try.prog Try.f4 Rows.lanesFairRow.domain false) (Rows.lanesFairSpec.post enc Try.prog Try.f4 false true false false) := by
  refine returnsInHanded_of_change (C := Try.checked) ownGod started (by kernel_rfl) Try.func4
    (ChangeSpec.witness6 (enc := enc) (C := Try.checked) false ⟨#[], #[.slice none 0 0, .slice none 0 0, .int .u8 0], []⟩ 8 (by kernel_rfl) (by kernel_rfl) (by kernel_rfl) (by kernel_rfl)) ?_
  intro W base args ds gs before hval hW _ _
  exact law_call (n := 4) (fn := Try.f4) (s := Rows.lanesFairSpec) laidAll (by kernel_rfl) rfl Try.underlying4 rfl
    (fun ds hd => by match ds, hd with | [d0, d1, d2], _ => rfl) (fun ps hp => args_lanesFair ps hp) hval hW
theorem lanesFair_holds : Rows.LanesFairSaid :=
  OpenClaim.holds_of_wide 4 Try.f4 rfl rfl rfl rfl rfl rfl rfl ⟨rfl, rfl, rfl, rfl, rfl⟩ rfl rfl rfl rfl rfl (by kernel_rfl) Try.func4 (by kernel_rfl)
    (of_decide_eq_true (by kernel_rfl)) (by unfold Func.isWrapper; first | (rw [if_pos (by decide +kernel)]; kernel_rfl) | (rw [if_neg (by decide +kernel)]; exact ⟨rfl, rfl⟩))
    (fun os started H enc _ => lanesFair_lifted os started H enc)
#print axioms lanesFair_holds
end Go.Proofs.Ytegfifeichfclaa
