/- For every disk and every list of writes kept DiskCalm returns true, and the arguments read behind the call as they read before: no condition. -/
import Derived.Test.YtebbledmaegfpaaW03h
import Derived.Test.YtebbledmaegfpaaR03b
namespace Go.Proofs.Ytebbledmaegfpaa
open Go.ChangeShapes Go.WideShapes Go.ChangeAt Go.RowKit Lk Lk.C Lk.S03

theorem kCalm : law03_DiskCalm_k Try.prog F03 := by unfold law03_DiskCalm_k; kernel_rfl
theorem args_diskCalm (ps : List PV) (h : SPs Try.prog 4 [25, 31] ps) : FnOk Try.prog 7 ps [.one (.im (.bool true))] := by
  obtain ⟨a0, p0, q0, w0, e0, r0, h0⟩ := h.enc EDsk shDsk agDsk
  obtain ⟨a1, p1, q1, w1, e1, r1, h1⟩ := h0.enc1 (EList EInt) rfl shInts agInts
  have rn := h1.nil'
  subst r0 r1 rn
  exact (diskCalm_law kLaw kRef kCalm a0 a1 w0 w1.2).args (.cons e0 (.cons e1 .nil))

set_option maxRecDepth 100000 in
theorem diskCalm_lifted (os : Os) (started : os.Started) (H : Type) (enc : TypeId × Value → H) :
    ReturnsInHanded {} Try.checked os 7 .any (Rows.diskCalmSpec.pre6 enc Try.prog Try.f7 Rows.diskCalmRow.domain false) (Rows.diskCalmSpec.post enc Try.prog Try.f7 false true false false) := by
  refine returnsInHanded_of_change (C := Try.checked) ownGod started (by kernel_rfl) Try.func7
    (ChangeSpec.witness6 (enc := enc) (C := Try.checked) false ⟨#[], #[.agg #[.slice none 0 0, .slice none 0 0], .slice none 0 0], []⟩ 8 (by kernel_rfl) (by kernel_rfl) (by kernel_rfl) (by kernel_rfl)) ?_
  intro W base args ds gs before hval hW _ _
  exact law_call (n := 4) (fn := Try.f7) (s := Rows.diskCalmSpec) laidAll (by kernel_rfl) rfl Try.underlying4 rfl
    (fun ds hd => by match ds, hd with | [d0, d1], _ => rfl) (fun ps hp => args_diskCalm ps hp) hval hW

theorem diskCalm_holds : Rows.DiskCalmSaid :=
  OpenClaim.holds_of_wide 7 Try.f7 rfl rfl rfl rfl rfl rfl rfl ⟨rfl, rfl, rfl, rfl, rfl⟩ rfl rfl rfl rfl rfl (by kernel_rfl) Try.func7 (by kernel_rfl)
    (of_decide_eq_true (by kernel_rfl)) (by unfold Func.isWrapper; first | (rw [if_pos (by decide +kernel)]; kernel_rfl) | (rw [if_neg (by decide +kernel)]; exact ⟨rfl, rfl⟩))
    (fun os started H enc _ => diskCalm_lifted os started H enc)
#print axioms diskCalm_holds
end Go.Proofs.Ytebbledmaegfpaa
