/- For every page and bit PageBit returns true, and the arguments read behind the call as they read before: no condition. -/
import Derived.Test.YtbjlbloncjfbhaaW02j
import Derived.Test.YtbjlbloncjfbhaaR02b
namespace Go.Proofs.Ytbjlbloncjfbhaa
open Go.ChangeShapes Go.WideShapes Go.ChangeAt Go.RowKit Lk Lk.C Lk.S02

theorem kBit : law02_PageBit_k Try.prog F02 := by unfold law02_PageBit_k; kernel_rfl
theorem args_pageBit (ps : List PV) (h : SPs Try.prog 4 [23, 5, 5] ps) : FnOk Try.prog 5 ps [.one (.im (.bool true))] := by
  obtain ⟨a0, p0, q0, w0, e0, r0, h0⟩ := h.enc EPg shPg agPg
  obtain ⟨a1, p1, q1, w1, e1, r1, h1⟩ := h0.enc1 EU8 rfl shU8 agU8
  obtain ⟨a2, p2, q2, w2, e2, r2, h2⟩ := h1.enc1 EU8 rfl shU8 agU8
  have rn := h2.nil'
  subst r0 r1 r2 rn
  exact (pageBit_law kLaw kBit a0 a1 a2 w0).args (.cons e0 (.cons e1 (.cons e2 .nil)))

set_option maxRecDepth 100000 in
theorem pageBit_lifted (os : Os) (started : os.Started) (H : Type) (enc : TypeId × Value → H) :
    ReturnsInHanded {} Try.checked os 5 .any (Rows.pageBitSpec.pre6 enc Try.prog Try.f5 Rows.pageBitRow.domain false) (Rows.pageBitSpec.post enc Try.prog Try.f5 false true false false) := by
  refine returnsInHanded_of_change (C := Try.checked) ownGod started (by kernel_rfl) Try.func5
    (ChangeSpec.witness6 (enc := enc) (C := Try.checked) false ⟨#[], #[.agg #[.int .i64 0, .int .i64 0, .string ⟨⟨[]⟩⟩], .int .u8 0, .int .u8 0], []⟩ 8 (by kernel_rfl) (by kernel_rfl) (by kernel_rfl) (by kernel_rfl)) ?_
  intro W base args ds gs before hval hW _ _
  exact law_call (n := 4) (fn := Try.f5) (s := Rows.pageBitSpec) laidAll (by kernel_rfl) rfl Try.underlying4 rfl
    (fun ds hd => by match ds, hd with | [d0, d1, d2], _ => rfl) (fun ps hp => args_pageBit ps hp) hval hW

theorem pageBit_holds : Rows.PageBitSaid :=
  OpenClaim.holds_of_wide 5 Try.f5 rfl rfl rfl rfl rfl rfl rfl ⟨rfl, rfl, rfl, rfl, rfl⟩ rfl rfl rfl rfl rfl (by kernel_rfl) Try.func5 (by kernel_rfl)
    (of_decide_eq_true (by kernel_rfl)) (by unfold Func.isWrapper; first | (rw [if_pos (by decide +kernel)]; kernel_rfl) | (rw [if_neg (by decide +kernel)]; exact ⟨rfl, rfl⟩))
    (fun os started H enc _ => pageBit_lifted os started H enc)
#print axioms pageBit_holds
end Go.Proofs.Ytbjlbloncjfbhaa
