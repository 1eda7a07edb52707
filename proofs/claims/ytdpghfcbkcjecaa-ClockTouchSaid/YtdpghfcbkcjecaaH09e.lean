/- For every three bytes ClockTouch returns true, and the arguments read behind the call as they read before: no condition. -/
import Derived.Test.YtdpghfcbkcjecaaW09q
import Derived.Test.YtdpghfcbkcjecaaR09
namespace Go.Proofs.Ytdpghfcbkcjecaa
open Go.ChangeShapes Go.WideShapes Go.ChangeAt Go.RowKit Lk Lk.C Lk.S09

theorem kTouch : law09_ClockTouch_k Try.prog F09 := by unfold law09_ClockTouch_k; kernel_rfl
theorem shU8 : shT Try.prog 4 5 = [.int .u8] := by kernel_rfl
theorem agU8 : isAggT Try.prog 5 = false := by kernel_rfl
theorem args_clockTouch (ps : List PV) (h : SPs Try.prog 4 [5, 5, 5] ps) : FnOk Try.prog 6 ps [.one (.im (.bool true))] := by
  obtain ⟨a0, p0, q0, w0, e0, r0, h0⟩ := h.enc1 EU8 rfl shU8 agU8
  obtain ⟨a1, p1, q1, w1, e1, r1, h1⟩ := h0.enc1 EU8 rfl shU8 agU8
  obtain ⟨a2, p2, q2, w2, e2, r2, h2⟩ := h1.enc1 EU8 rfl shU8 agU8
  have rn := h2.nil'
  subst r0 r1 r2 rn
  exact (clockTouch_law kClock kLaw kTouch a0 a1 a2).args (.cons e0 (.cons e1 (.cons e2 .nil)))

set_option maxRecDepth 100000 in
theorem clockTouch_lifted (os : Os) (started : os.Started) (H : Type) (enc : TypeId × Value → H) :
    ReturnsInHanded {} Try.checked os 6 .any (Rows.clockTouchSpec.pre6 enc Try.prog Try.f6 Rows.clockTouchRow.domain false) (Rows.clockTouchSpec.post enc Try.prog Try.f6 false true false false) := by
  refine returnsInHanded_of_change (C := Try.checked) ownGod started (by kernel_rfl) Try.func6
    (ChangeSpec.witness6 (enc := enc) (C := Try.checked) false ⟨#[], #[.int .u8 0, .int .u8 0, .int .u8 0], []⟩ 8 (by kernel_rfl) (by kernel_rfl) (by kernel_rfl) (by kernel_rfl)) ?_
  intro W base args ds gs before hval hW _ _
  exact law_call (n := 4) (fn := Try.f6) (s := Rows.clockTouchSpec) laidAll (by kernel_rfl) rfl Try.underlying4 rfl
    (fun ds hd => by match ds, hd with | [d0, d1, d2], _ => rfl) (fun ps hp => args_clockTouch ps hp) hval hW

theorem clockTouch_holds : Rows.ClockTouchSaid :=
  OpenClaim.holds_of_wide 6 Try.f6 rfl rfl rfl rfl rfl rfl rfl ⟨rfl, rfl, rfl, rfl, rfl⟩ rfl rfl rfl rfl rfl (by kernel_rfl) Try.func6 (by kernel_rfl)
    (of_decide_eq_true (by kernel_rfl)) (by unfold Func.isWrapper; first | (rw [if_pos (by decide +kernel)]; kernel_rfl) | (rw [if_neg (by decide +kernel)]; exact ⟨rfl, rfl⟩))
    (fun os started H enc _ => clockTouch_lifted os started H enc)
#print axioms clockTouch_holds
end Go.Proofs.Ytdpghfcbkcjecaa
