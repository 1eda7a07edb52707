/- For every number of sectors DiskFull returns true, and the argument reads behind the call as it read before: no condition. -/
import Derived.Test.YtebbledmaegfpaaW03m
import Derived.Test.YtebbledmaegfpaaR03b
namespace Go.Proofs.Ytebbledmaegfpaa
open Go.ChangeShapes Go.WideShapes Go.ChangeAt Go.RowKit Lk Lk.C Lk.S03

theorem kLetters : law03_letters_k Try.prog F03 := by unfold law03_letters_k; kernel_rfl
theorem kFull : law03_DiskFull_k Try.prog F03 := by unfold law03_DiskFull_k; kernel_rfl
theorem shU8 : shT Try.prog 4 5 = [.int .u8] := by kernel_rfl
theorem agU8 : isAggT Try.prog 5 = false := by kernel_rfl
theorem args_diskFull (ps : List PV) (h : SPs Try.prog 4 [5] ps) : FnOk Try.prog 8 ps [.one (.im (.bool true))] := by
  obtain ⟨a0, p0, q0, w0, e0, r0, h0⟩ := h.enc1 EU8 rfl shU8 agU8
  have rn := h0.nil'
  subst r0 rn
  exact (diskFull_law kLaw kRef kLetters kFull a0).args (.cons e0 .nil)

set_option maxRecDepth 100000 in
theorem diskFull_lifted (os : Os) (started : os.Started) (H : Type) (enc : TypeId × Value → H) :
    ReturnsInHanded {} Try.checked os 8 .any (Rows.diskFullSpec.pre6 enc Try.prog Try.f8 Rows.diskFullRow.domain false) (Rows.diskFullSpec.post enc Try.prog Try.f8 false true false false) := by
  refine returnsInHanded_of_change (C := Try.checked) ownGod started (by kernel_rfl) Try.func8
    (ChangeSpec.witness6 (enc := enc) (C := Try.checked) false ⟨#[], #[.int .u8 0], []⟩ 8 (by kernel_rfl) (by kernel_rfl) (by kernel_rfl) (by kernel_rfl)) ?_
  intro W base args ds gs before hval hW _ _
  exact law_call (n := 4) (fn := Try.f8) (s := Rows.diskFullSpec) laidAll (by kernel_rfl) rfl Try.underlying4 rfl
    (fun ds hd => by match ds, hd with | [d0], _ => rfl) (fun ps hp => args_diskFull ps hp) hval hW

theorem diskFull_holds : Rows.DiskFullSaid :=
  OpenClaim.holds_of_wide 8 Try.f8 rfl rfl rfl rfl rfl rfl rfl ⟨rfl, rfl, rfl, rfl, rfl⟩ rfl rfl rfl rfl rfl (by kernel_rfl) Try.func8 (by kernel_rfl)
    (of_decide_eq_true (by kernel_rfl)) (by unfold Func.isWrapper; first | (rw [if_pos (by decide +kernel)]; kernel_rfl) | (rw [if_neg (by decide +kernel)]; exact ⟨rfl, rfl⟩))
    (fun os started H enc _ => diskFull_lifted os started H enc)
#print axioms diskFull_holds
end Go.Proofs.Ytebbledmaegfpaa
