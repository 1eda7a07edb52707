/- For every clock and number ClockSweeps returns true, and the arguments read behind the call as they read before: no condition. -/
import Derived.Test.YtdpghfcbkcjecaaW09g
import Derived.Test.YtdpghfcbkcjecaaR09
namespace Go.Proofs.Ytdpghfcbkcjecaa
open Go.ChangeShapes Go.WideShapes Go.ChangeAt Go.RowKit Lk Lk.C Lk.S09

theorem kSweeps : law09_ClockSweeps_k Try.prog F09 := by unfold law09_ClockSweeps_k; kernel_rfl
theorem args_clockSweeps (ps : List PV) (h : SPs Try.prog 4 [24, 3] ps) : FnOk Try.prog 3 ps [.one (.im (.bool true))] := by
  obtain ⟨a0, p0, q0, w0, e0, r0, h0⟩ := h.enc EClk shClk agClk
  obtain ⟨a1, p1, q1, w1, e1, r1, h1⟩ := h0.enc1 EInt rfl shInt agInt
  have rn := h1.nil'
  subst r0 r1 rn
  exact (clockSweeps_law kClock kRef kLaw kSweeps a0 a1 w0).args (.cons e0 (.cons e1 .nil))

set_option maxRecDepth 100000 in
theorem clockSweeps_lifted (os : Os) (started : os.Started) (H : Type) (enc : TypeId × Value → H) :
    ReturnsInHanded {} Try.checked os 3 .any (Rows.clockSweepsSpec.pre6 enc Try.prog Try.f3 Rows.clockSweepsRow.domain false) (Rows.clockSweepsSpec.post enc Try.prog Try.f3 false true false false) := by
  refine returnsInHanded_of_change (C := Try.checked) ownGod started (by kernel_rfl) Try.func3
    (ChangeSpec.witness6 (enc := enc) (C := Try.checked) false ⟨#[], #[.agg #[.slice none 0 0, .int .i64 0], .int .i64 0], []⟩ 8 (by kernel_rfl) (by kernel_rfl) (by kernel_rfl) (by kernel_rfl)) ?_
  intro W base args ds gs before hval hW _ _
  exact law_call (n := 4) (fn := Try.f3) (s := Rows.clockSweepsSpec) laidAll (by kernel_rfl) rfl Try.underlying4 rfl
    (fun ds hd => by match ds, hd with | [d0, d1], _ => rfl) (fun ps hp => args_clockSweeps ps hp) hval hW

theorem clockSweeps_holds : Rows.ClockSweepsSaid :=
  OpenClaim.holds_of_wide 3 Try.f3 rfl rfl rfl rfl rfl rfl rfl ⟨rfl, rfl, rfl, rfl, rfl⟩ rfl rfl rfl rfl rfl (by kernel_rfl) Try.func3 (by kernel_rfl)
    (of_decide_eq_true (by kernel_rfl)) (by unfold Func.isWrapper; first | (rw [if_pos (by decide +kernel)]; kernel_rfl) | (rw [if_neg (by decide +kernel)]; exact ⟨rfl, rfl⟩))
    (fun os started H enc _ => clockSweeps_lifted os started H enc)
#print axioms clockSweeps_holds
end Go.Proofs.Ytdpghfcbkcjecaa
