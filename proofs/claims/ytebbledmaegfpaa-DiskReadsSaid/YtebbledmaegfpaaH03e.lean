/- For every disk and write DiskReads returns true, and the arguments read behind the call as they read before: no condition. -/
import Derived.Test.YtebbledmaegfpaaW03j
import Derived.Test.YtebbledmaegfpaaR03b
namespace Go.Proofs.Ytebbledmaegfpaa
open Go.ChangeShapes Go.WideShapes Go.ChangeAt Go.RowKit Lk Lk.C Lk.S03

theorem kReads : law03_DiskReads_k Try.prog F03 := by unfold law03_DiskReads_k; kernel_rfl
theorem args_diskReads (ps : List PV) (h : SPs Try.prog 4 [25, 35] ps) : FnOk Try.prog 9 ps [.one (.im (.bool true))] := by
  obtain ⟨a0, p0, q0, w0, e0, r0, h0⟩ := h.enc EDsk shDsk agDsk
  obtain ⟨a1, p1, q1, w1, e1, r1, h1⟩ := h0.enc EWr shWr agWr
  have rn := h1.nil'
  subst r0 r1 rn
  exact (diskReads_law kLaw kRef kReads a0 a1 w0 w1).args (.cons e0 (.cons e1 .nil))

set_option maxRecDepth 100000 in
theorem diskReads_lifted (os : Os) (started : os.Started) (H : Type) (enc : TypeId × Value → H) :
    ReturnsInHanded {} Try.checked os 9 .any (Rows.diskReadsSpec.pre6 enc Try.prog Try.f9 Rows.diskReadsRow.domain false) (Rows.diskReadsSpec.post enc Try.prog Try.f9 false true false false) := by
  refine returnsInHanded_of_change (C := Try.checked) ownGod started (by kernel_rfl) Try.func9
    (ChangeSpec.witness6 (enc := enc) (C := Try.checked) false ⟨#[], #[.agg #[.slice none 0 0, .slice none 0 0], .agg #[.int .i64 0, .string ⟨⟨[]⟩⟩]], []⟩ 8 (by kernel_rfl) (by kernel_rfl) (by kernel_rfl) (by kernel_rfl)) ?_
  intro W base args ds gs before hval hW _ _
  exact law_call (n := 4) (fn := Try.f9) (s := Rows.diskReadsSpec) laidAll (by kernel_rfl) rfl Try.underlying4 rfl
    (fun ds hd => by match ds, hd with | [d0, d1], _ => rfl) (fun ps hp => args_diskReads ps hp) hval hW

theorem diskReads_holds : Rows.DiskReadsSaid :=
  OpenClaim.holds_of_wide 9 Try.f9 rfl rfl rfl rfl rfl rfl rfl ⟨rfl, rfl, rfl, rfl, rfl⟩ rfl rfl rfl rfl rfl (by kernel_rfl) Try.func9 (by kernel_rfl)
    (of_decide_eq_true (by kernel_rfl)) (by unfold Func.isWrapper; first | (rw [if_pos (by decide +kernel)]; kernel_rfl) | (rw [if_neg (by decide +kernel)]; exact ⟨rfl, rfl⟩))
    (fun os started H enc _ => diskReads_lifted os started H enc)
#print axioms diskReads_holds
end Go.Proofs.Ytebbledmaegfpaa
