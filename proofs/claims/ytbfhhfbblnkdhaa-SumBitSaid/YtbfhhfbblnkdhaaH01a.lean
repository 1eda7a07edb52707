/- For every string, place and bit SumBit returns true, and the arguments read behind the call as they read before: no condition. -/
import Derived.Test.YtbfhhfbblnkdhaaW01l
import Derived.Test.YtbfhhfbblnkdhaaR01
namespace Go.Proofs.Ytbfhhfbblnkdhaa
open Go.ChangeShapes Go.WideShapes Go.ChangeAt Go.RowKit Lk Lk.C Lk.S01

theorem kBit : law01_SumBit_k Try.prog F01 := by unfold law01_SumBit_k; kernel_rfl
theorem shU16 : shT Try.prog 4 31 = [.int .u16] := by kernel_rfl
theorem agU16 : isAggT Try.prog 31 = false := by kernel_rfl
theorem args_sumBit (ps : List PV) (h : SPs Try.prog 4 [9, 31, 5] ps) : FnOk Try.prog 4 ps [.one (.im (.bool true))] := by
  obtain ⟨a0, p0, q0, w0, e0, r0, h0⟩ := h.enc1 EStr rfl shStr agStr
  obtain ⟨a1, p1, q1, w1, e1, r1, h1⟩ := h0.enc1 (EK .u16) rfl shU16 agU16
  obtain ⟨a2, p2, q2, w2, e2, r2, h2⟩ := h1.enc1 EU8 rfl shU8 agU8
  have rn := h2.nil'
  subst r0 r1 r2 rn
  exact (sumBit_law kSum kAwake kBit a0 a1 a2 w1.1 w1.2).args (.cons e0 (.cons e1 (.cons e2 .nil)))

set_option maxRecDepth 100000 in
theorem sumBit_lifted (os : Os) (started : os.Started) (H : Type) (enc : TypeId × Value → H) :
    ReturnsInHanded {} Try.checked os 4 .any (Rows.sumBitSpec.pre6 enc Try.prog Try.f4 Rows.sumBitRow.domain false) (Rows.sumBitSpec.post enc Try.prog Try.f4 false true false false) := by
  refine returnsInHanded_of_change (C := Try.checked) ownGod started (by kernel_rfl) Try.func4
    (ChangeSpec.witness6 (enc := enc) (C := Try.checked) false ⟨#[], #[.string ⟨⟨[]⟩⟩, .int .u16 0, .int .u8 0], []⟩ 8 (by kernel_rfl) (by kernel_rfl) (by kernel_rfl) (by kernel_rfl)) ?_
  intro W base args ds gs before hval hW _ _
  exact law_call (n := 4) (fn := Try.f4) (s := Rows.sumBitSpec) laidAll (by kernel_rfl) rfl Try.underlying4 rfl
    (fun ds hd => by match ds, hd with | [d0, d1, d2], _ => rfl) (fun ps hp => args_sumBit ps hp) hval hW

theorem sumBit_holds : Rows.SumBitSaid :=
  OpenClaim.holds_of_wide 4 Try.f4 rfl rfl rfl rfl rfl rfl rfl ⟨rfl, rfl, rfl, rfl, rfl⟩ rfl rfl rfl rfl rfl (by kernel_rfl) Try.func4 (by kernel_rfl)
    (of_decide_eq_true (by kernel_rfl)) (by unfold Func.isWrapper; first | (rw [if_pos (by decide +kernel)]; kernel_rfl) | (rw [if_neg (by decide +kernel)]; exact ⟨rfl, rfl⟩))
    (fun os started H enc _ => sumBit_lifted os started H enc)
#print axioms sumBit_holds
end Go.Proofs.Ytbfhhfbblnkdhaa
