/- For every disk and every list of writes kept DiskOld returns true, and the arguments read behind the call as they read before: no condition. -/
import Derived.Test.YtebbledmaegfpaaW03g
import Derived.Test.YtebbledmaegfpaaR03
namespace Go.Proofs.Ytebbledmaegfpaa
open Go.ChangeShapes Go.WideShapes Go.ChangeAt Go.RowKit Lk Lk.C Lk.S03

theorem kRef : KRef Try.prog F03 where
  m := mixed
  small := by unfold ref03_Small_k; kernel_rfl
  right := by unfold ref03_Right_k; kernel_rfl
  same := by unfold ref03_Same_k; kernel_rfl
  in_ := by unfold ref03_in_k; kernel_rfl
  read := by unfold ref03_Read_k; kernel_rfl
  sync := by unfold ref03_Sync_k; kernel_rfl
  crash := by unfold ref03_Crash_k; kernel_rfl
theorem kOld : law03_DiskOld_k Try.prog F03 := by unfold law03_DiskOld_k; kernel_rfl
theorem args_diskOld (ps : List PV) (h : SPs Try.prog 4 [25, 31] ps) : FnOk Try.prog 4 ps [.one (.im (.bool true))] := by
  obtain ⟨a0, p0, q0, w0, e0, r0, h0⟩ := h.enc EDsk shDsk agDsk
  obtain ⟨a1, p1, q1, w1, e1, r1, h1⟩ := h0.enc1 (EList EInt) rfl shInts agInts
  have rn := h1.nil'
  subst r0 r1 rn
  exact (diskOld_law kLaw kRef kOld a0 a1 w0 w1.2).args (.cons e0 (.cons e1 .nil))

set_option maxRecDepth 100000 in
theorem diskOld_lifted (os : Os) (started : os.Started) (H : Type) (enc : TypeId × Value → H) :
    ReturnsInHanded {} Try.checked os 4 .any (Rows.diskOldSpec.pre6 enc Try.prog Try.f4 Rows.diskOldRow.domain false) (Rows.diskOldSpec.post enc Try.prog Try.f4 false true false false) := by
  refine returnsInHanded_of_change (C := Try.checked) ownGod started (by kernel_rfl) Try.func4
    (ChangeSpec.witness6 (enc := enc) (C := Try.checked) false ⟨#[], #[.agg #[.slice none 0 0, .slice none 0 0], .slice none 0 0], []⟩ 8 (by kernel_rfl) (by kernel_rfl) (by kernel_rfl) (by kernel_rfl)) ?_
  intro W base args ds gs before hval hW _ _
  exact law_call (n := 4) (fn := Try.f4) (s := Rows.diskOldSpec) laidAll (by kernel_rfl) rfl Try.underlying4 rfl
    (fun ds hd => by match ds, hd with | [d0, d1], _ => rfl) (fun ps hp => args_diskOld ps hp) hval hW

theorem diskOld_holds : Rows.DiskOldSaid :=
  OpenClaim.holds_of_wide 4 Try.f4 rfl rfl rfl rfl rfl rfl rfl ⟨rfl, rfl, rfl, rfl, rfl⟩ rfl rfl rfl rfl rfl (by kernel_rfl) Try.func4 (by kernel_rfl)
    (of_decide_eq_true (by kernel_rfl)) (by unfold Func.isWrapper; first | (rw [if_pos (by decide +kernel)]; kernel_rfl) | (rw [if_neg (by decide +kernel)]; exact ⟨rfl, rfl⟩))
    (fun os started H enc _ => diskOld_lifted os started H enc)
#print axioms diskOld_holds
end Go.Proofs.Ytebbledmaegfpaa
