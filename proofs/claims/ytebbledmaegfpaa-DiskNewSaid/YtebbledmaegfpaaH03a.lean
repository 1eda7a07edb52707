/- For every int DiskNew returns true, and the argument reads behind the call as it read before: no condition. -/
import Derived.Test.YtebbledmaegfpaaR03
namespace Go.Proofs.Ytebbledmaegfpaa
open Go.ChangeShapes Go.WideShapes Go.ChangeAt Go.RowKit Lk Lk.C Lk.S03

theorem kNew : law03_DiskNew_k Try.prog F03 := by unfold law03_DiskNew_k; kernel_rfl
theorem args_diskNew (ps : List PV) (h : SPs Try.prog 4 [3] ps) : FnOk Try.prog 3 ps [.one (.im (.bool true))] := by
  obtain ⟨a0, p0, q0, w0, e0, r0, h0⟩ := h.enc1 EInt rfl shInt agInt
  have rn := h0.nil'
  subst r0 rn
  exact (diskNew_law kLaw kNew a0).args (.cons e0 .nil)

set_option maxRecDepth 100000 in
theorem diskNew_lifted (os : Os) (started : os.Started) (H : Type) (enc : TypeId × Value → H) :
    ReturnsInHanded {} Try.checked os 3 .any (Rows.diskNewSpec.pre6 enc Try.prog Try.f3 Rows.diskNewRow.domain false) (Rows.diskNewSpec.post enc Try.prog Try.f3 false true false false) := by
  refine returnsInHanded_of_change (C := Try.checked) ownGod started (by kernel_rfl) Try.func3
    (ChangeSpec.witness6 (enc := enc) (C := Try.checked) false ⟨#[], #[.int .i64 0], []⟩ 8 (by kernel_rfl) (by kernel_rfl) (by kernel_rfl) (by kernel_rfl)) ?_
  intro W base args ds gs before hval hW _ _
  exact law_call (n := 4) (fn := Try.f3) (s := Rows.diskNewSpec) laidAll (by kernel_rfl) rfl Try.underlying4 rfl
    (fun ds hd => by match ds, hd with | [d0], _ => rfl) (fun ps hp => args_diskNew ps hp) hval hW

theorem diskNew_holds : Rows.DiskNewSaid :=
  OpenClaim.holds_of_wide 3 Try.f3 rfl rfl rfl rfl rfl rfl rfl ⟨rfl, rfl, rfl, rfl, rfl⟩ rfl rfl rfl rfl rfl (by kernel_rfl) Try.func3 (by kernel_rfl)
    (of_decide_eq_true (by kernel_rfl)) (by unfold Func.isWrapper; first | (rw [if_pos (by decide +kernel)]; kernel_rfl) | (rw [if_neg (by decide +kernel)]; exact ⟨rfl, rfl⟩))
    (fun os started H enc _ => diskNew_lifted os started H enc)
#print axioms diskNew_holds
end Go.Proofs.Ytebbledmaegfpaa
