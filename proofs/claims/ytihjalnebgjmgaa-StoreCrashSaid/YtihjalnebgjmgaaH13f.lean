/- For all pages, page, number and writes kept StoreCrash returns true, and the arguments read behind the call as they read before: no condition. -/
import Derived.Test.YtihjalnebgjmgaaGs13b
import Derived.Test.YtihjalnebgjmgaaR13
set_option linter.unusedSimpArgs false
set_option linter.unusedVariables false
namespace Go.Proofs.Ytihjalnebgjmgaa
open Go.ChangeShapes Go.WideShapes Go.ChangeAt Go.RowKit Lk Lk.C Lk.S03 Lk.S12 Lk.S13
theorem kLaw : law13_StoreCrash_k Try.prog F12 := by unfold law13_StoreCrash_k; kernel_rfl
theorem args_storeCrash (ps : List PV) (h : SPs Try.prog 4 [72, 61, 5, 56] ps) : FnOk Try.prog 14 ps [.one (.im (.bool true))] := by
  obtain ⟨a0, p0, q0, w0, e0, r0, h0⟩ := h.enc1 (EList S13.EPg) rfl shPgs agPgs
  obtain ⟨a1, p1, q1, w1, e1, r1, h1⟩ := h0.enc S13.EPg shPg agPg
  obtain ⟨a2, p2, q2, w2, e2, r2, h2⟩ := h1.enc1 EU8 rfl shU8 agU8
  obtain ⟨a3, p3, q3, w3, e3, r3, h3⟩ := h2.enc1 (EList EInt) rfl shInts agInts
  have rn := h3.nil'
  subst r0 r1 r2 r3 rn
  exact (storeCrash_law k13 kPRef kLaw a0 a1 a2 a3 w1 w0.2 w0.1 w3.2).args (.cons e0 (.cons e1 (.cons e2 (.cons e3 .nil))))
set_option maxRecDepth 100000 in
theorem storeCrash_lifted (os : Os) (started : os.Started) (H : Type) (enc : TypeId × Value → H) :
    ReturnsInHanded {} Try.checked os 14 .any (Rows.storeCrashSpec.pre6 enc Try.prog Try.f14 Rows.storeCrashRow.domain false) (Rows.storeCrashSpec.post enc Try.prog Try.f14 false true false false) := by
  refine returnsInHanded_of_change (C := Try.checked) ownGod started (by kernel_rfl) Try.func14
    (ChangeSpec.witness6 (enc := enc) (C := Try.checked) false ⟨#[], #[.slice none 0 0, .agg #[.int .i64 0, .int .i64 0, .string ⟨⟨[]⟩⟩], .int .u8 0, .slice none 0 0], []⟩ 8 (by kernel_rfl) (by kernel_rfl) (by kernel_rfl) (by kernel_rfl)) ?_
  intro W base args ds gs before hval hW _ _
  exact law_call (n := 4) (fn := Try.f14) (s := Rows.storeCrashSpec) laidAll (by kernel_rfl) rfl Try.underlying4 rfl
    (fun ds hd => by match ds, hd with | [d0, d1, d2, d3], _ => rfl) (fun ps hp => args_storeCrash ps hp) hval hW
theorem storeCrash_holds : Rows.StoreCrashSaid :=
  OpenClaim.holds_of_wide 14 Try.f14 rfl rfl rfl rfl rfl rfl rfl ⟨rfl, rfl, rfl, rfl, rfl⟩ rfl rfl rfl rfl rfl (by kernel_rfl) Try.func14 (by kernel_rfl)
    (of_decide_eq_true (by kernel_rfl)) (by unfold Func.isWrapper; first | (rw [if_pos (by decide +kernel)]; kernel_rfl) | (rw [if_neg (by decide +kernel)]; exact ⟨rfl, rfl⟩))
    (fun os started H enc _ => storeCrash_lifted os started H enc)
#print axioms storeCrash_holds
end Go.Proofs.Ytihjalnebgjmgaa
