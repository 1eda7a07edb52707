/- For every place, letters and writes kept DiskTwice returns true, and the arguments read behind the call as they read before: no condition. -/
import Derived.Test.YtebbledmaegfpaaW03l
import Derived.Test.YtebbledmaegfpaaR03b
namespace Go.Proofs.Ytebbledmaegfpaa
open Go.ChangeShapes Go.WideShapes Go.ChangeAt Go.RowKit Lk Lk.C Lk.S03

theorem kLetters : law03_letters_k Try.prog F03 := by unfold law03_letters_k; kernel_rfl
theorem kTwice : law03_DiskTwice_k Try.prog F03 := by unfold law03_DiskTwice_k; kernel_rfl
theorem shU8 : shT Try.prog 4 5 = [.int .u8] := by kernel_rfl
theorem agU8 : isAggT Try.prog 5 = false := by kernel_rfl
theorem shBool : shT Try.prog 4 4 = [.bool] := by kernel_rfl
theorem agBool : isAggT Try.prog 4 = false := by kernel_rfl
theorem args_diskTwice (ps : List PV) (h : SPs Try.prog 4 [5, 5, 5, 4, 4] ps) : FnOk Try.prog 5 ps [.one (.im (.bool true))] := by
  obtain ⟨a0, p0, q0, w0, e0, r0, h0⟩ := h.enc1 EU8 rfl shU8 agU8
  obtain ⟨a1, p1, q1, w1, e1, r1, h1⟩ := h0.enc1 EU8 rfl shU8 agU8
  obtain ⟨a2, p2, q2, w2, e2, r2, h2⟩ := h1.enc1 EU8 rfl shU8 agU8
  obtain ⟨a3, p3, q3, w3, e3, r3, h3⟩ := h2.enc1 EBool rfl shBool agBool
  obtain ⟨a4, p4, q4, w4, e4, r4, h4⟩ := h3.enc1 EBool rfl shBool agBool
  have rn := h4.nil'
  subst r0 r1 r2 r3 r4 rn
  exact (diskTwice_law kLaw kRef kLetters kTwice a0 a1 a2 a3 a4).args (.cons e0 (.cons e1 (.cons e2 (.cons e3 (.cons e4 .nil)))))

set_option maxRecDepth 100000 in
theorem diskTwice_lifted (os : Os) (started : os.Started) (H : Type) (enc : TypeId × Value → H) :
    ReturnsInHanded {} Try.checked os 5 .any (Rows.diskTwiceSpec.pre6 enc Try.prog Try.f5 Rows.diskTwiceRow.domain false) (Rows.diskTwiceSpec.post enc Try.prog Try.f5 false true false false) := by
  refine returnsInHanded_of_change (C := Try.checked) ownGod started (by kernel_rfl) Try.func5
    (ChangeSpec.witness6 (enc := enc) (C := Try.checked) false ⟨#[], #[.int .u8 0, .int .u8 0, .int .u8 0, .bool false, .bool false], []⟩ 8 (by kernel_rfl) (by kernel_rfl) (by kernel_rfl) (by kernel_rfl)) ?_
  intro W base args ds gs before hval hW _ _
  exact law_call (n := 4) (fn := Try.f5) (s := Rows.diskTwiceSpec) laidAll (by kernel_rfl) rfl Try.underlying4 rfl
    (fun ds hd => by match ds, hd with | [d0, d1, d2, d3, d4], _ => rfl) (fun ps hp => args_diskTwice ps hp) hval hW

theorem diskTwice_holds : Rows.DiskTwiceSaid :=
  OpenClaim.holds_of_wide 5 Try.f5 rfl rfl rfl rfl rfl rfl rfl ⟨rfl, rfl, rfl, rfl, rfl⟩ rfl rfl rfl rfl rfl (by kernel_rfl) Try.func5 (by kernel_rfl)
    (of_decide_eq_true (by kernel_rfl)) (by unfold Func.isWrapper; first | (rw [if_pos (by decide +kernel)]; kernel_rfl) | (rw [if_neg (by decide +kernel)]; exact ⟨rfl, rfl⟩))
    (fun os started H enc _ => diskTwice_lifted os started H enc)
#print axioms diskTwice_holds
end Go.Proofs.Ytebbledmaegfpaa
