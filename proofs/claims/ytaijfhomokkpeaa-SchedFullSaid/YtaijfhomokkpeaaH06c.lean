/- For every page SchedFull returns true: no condition. -/
import Derived.Test.YtaijfhomokkpeaaGs06b
import Derived.Test.YtaijfhomokkpeaaR06
set_option linter.unusedSimpArgs false
set_option linter.unusedVariables false
namespace Go.Proofs.Ytaijfhomokkpeaa
open Go.ChangeShapes Go.WideShapes Go.ChangeAt Go.RowKit Lk Lk.C Lk.S03 Lk.S04 Lk.S06
theorem kFull : law06_SchedFull_k Try.prog F04 := by unfold law06_SchedFull_k; kernel_rfl
theorem args_schedFull (ps : List PV) (h : SPs Try.prog 5 [5] ps) : FnOk Try.prog 10 ps [.one (.im (.bool true))] := by
  obtain ⟨a0, p0, q0, w0, e0, r0, h0⟩ := h.enc1 EU8 rfl sh6U8 ag6U8
  have rn := h0.nil'
  subst r0 rn
  exact (schedFull_law kLS kFull a0).args (.cons e0 .nil)
set_option maxRecDepth 100000 in
theorem schedFull_lifted (os : Os) (started : os.Started) (H : Type) (enc : TypeId × Value → H) :
    ReturnsInHanded {} Try.checked os 10 .any (Rows.schedFullSpec.pre6 enc Try.prog Try.f10 Rows.schedFullRow.domain false) (Rows.schedFullSpec.post enc Try.prog Try.f10 false true false false) := by
  refine returnsInHanded_of_change (C := Try.checked) ownGod started (by kernel_rfl) Try.func10
    (ChangeSpec.witness6 (enc := enc) (C := Try.checked) false ⟨#[], #[.int .u8 0], []⟩ 8 (by kernel_rfl) (by kernel_rfl) (by kernel_rfl) (by kernel_rfl)) ?_
  intro W base args ds gs before hval hW _ _
  exact law_call (n := 5) (fn := Try.f10) (s := Rows.schedFullSpec) laidAll (by kernel_rfl) rfl Try.underlying4 rfl
    (fun ds hd => by match ds, hd with | [d0], _ => rfl) (fun ps hp => args_schedFull ps hp) hval hW
theorem schedFull_holds : Rows.SchedFullSaid :=
  OpenClaim.holds_of_wide 10 Try.f10 rfl rfl rfl rfl rfl rfl rfl ⟨rfl, rfl, rfl, rfl, rfl⟩ rfl rfl rfl rfl rfl (by kernel_rfl) Try.func10 (by kernel_rfl)
    (of_decide_eq_true (by kernel_rfl)) (by unfold Func.isWrapper; first | (rw [if_pos (by decide +kernel)]; kernel_rfl) | (rw [if_neg (by decide +kernel)]; exact ⟨rfl, rfl⟩))
    (fun os started H enc _ => schedFull_lifted os started H enc)
#print axioms schedFull_holds
end Go.Proofs.Ytaijfhomokkpeaa
