/- For every list of acts, and every list of what is kept, SchedCrash returns true, and the arguments read behind the call as they read before: no condition. -/
import Derived.Test.YtaijfhomokkpeaaGs06b
import Derived.Test.YtaijfhomokkpeaaR06
set_option linter.unusedSimpArgs false
set_option linter.unusedVariables false
namespace Go.Proofs.Ytaijfhomokkpeaa
open Go.ChangeShapes Go.WideShapes Go.ChangeAt Go.RowKit Lk Lk.C Lk.S03 Lk.S04 Lk.S06
theorem kCrash : law06_SchedCrash_k Try.prog F04 := by unfold law06_SchedCrash_k; kernel_rfl
theorem args_schedCrash (ps : List PV) (h : SPs Try.prog 5 [65, 58] ps) : FnOk Try.prog 12 ps [.one (.im (.bool true))] := by
  obtain ⟨a0, p0, q0, w0, e0, r0, h0⟩ := h.enc1 (EList EAc) rfl shAcs agAcs
  obtain ⟨a1, p1, q1, w1, e1, r1, h1⟩ := h0.enc1 (EList EInt) rfl sh6Ints ag6Ints
  have rn := h1.nil'
  subst r0 r1 rn
  exact (schedCrash_law kLS kRef kCrash a0 a1 w0 w1.2).args (.cons e0 (.cons e1 .nil))
set_option maxRecDepth 100000 in
theorem schedCrash_lifted (os : Os) (started : os.Started) (H : Type) (enc : TypeId × Value → H) :
    ReturnsInHanded {} Try.checked os 12 .any (Rows.schedCrashSpec.pre6 enc Try.prog Try.f12 Rows.schedCrashRow.domain false) (Rows.schedCrashSpec.post enc Try.prog Try.f12 false true false false) := by
  refine returnsInHanded_of_change (C := Try.checked) ownGod started (by kernel_rfl) Try.func12
    (ChangeSpec.witness6 (enc := enc) (C := Try.checked) false ⟨#[], #[.slice none 0 0, .slice none 0 0], []⟩ 8 (by kernel_rfl) (by kernel_rfl) (by kernel_rfl) (by kernel_rfl)) ?_
  intro W base args ds gs before hval hW _ _
  exact law_call (n := 5) (fn := Try.f12) (s := Rows.schedCrashSpec) laidAll (by kernel_rfl) rfl Try.underlying4 rfl
    (fun ds hd => by match ds, hd with | [d0, d1], _ => rfl) (fun ps hp => args_schedCrash ps hp) hval hW
theorem schedCrash_holds : Rows.SchedCrashSaid :=
  OpenClaim.holds_of_wide 12 Try.f12 rfl rfl rfl rfl rfl rfl rfl ⟨rfl, rfl, rfl, rfl, rfl⟩ rfl rfl rfl rfl rfl (by kernel_rfl) Try.func12 (by kernel_rfl)
    (of_decide_eq_true (by kernel_rfl)) (by unfold Func.isWrapper; first | (rw [if_pos (by decide +kernel)]; kernel_rfl) | (rw [if_neg (by decide +kernel)]; exact ⟨rfl, rfl⟩))
    (fun os started H enc _ => schedCrash_lifted os started H enc)
#print axioms schedCrash_holds
end Go.Proofs.Ytaijfhomokkpeaa
