/- For every list of weights, every lanes, every lane and every cost LanesPush returns true, and the arguments read behind the call as they read before: no condition. -/
import Derived.Test.YtegfifeichfclaaGs05c
import Derived.Test.YtegfifeichfclaaR05
set_option linter.unusedSimpArgs false
set_option linter.unusedVariables false
namespace Go.Proofs.Ytegfifeichfclaa
open Go.ChangeShapes Go.WideShapes Go.ChangeAt Go.RowKit Lk Lk.C Lk.S05
theorem kR05 : KR05 Try.prog F05 where
  ref := by unfold law05_ref_k; kernel_rfl
  right := by unfold ref05_Right_k; kernel_rfl
  same := by unfold ref05_Same_k; kernel_rfl
theorem kPush : law05_LanesPush_k Try.prog F05 := by unfold law05_LanesPush_k; kernel_rfl
theorem shLs : shT Try.prog 5 25 = ELs.sh := by kernel_rfl
theorem agLs : isAggT Try.prog 25 = true := by kernel_rfl
theorem shInts5 : shT Try.prog 5 22 = [.sl [.int .i64]] := by kernel_rfl
theorem shInt5 : shT Try.prog 5 3 = [.int .i64] := by kernel_rfl
theorem args_lanesPush (ps : List PV) (h : SPs Try.prog 5 [22, 25, 3, 3] ps) : FnOk Try.prog 3 ps [.one (.im (.bool true))] := by
  obtain ⟨a0, p0, q0, w0, e0, r0, h0⟩ := h.enc1 (EList EInt) rfl shInts5 agInts
  obtain ⟨a1, p1, q1, w1, e1, r1, h1⟩ := h0.enc ELs shLs agLs
  obtain ⟨a2, p2, q2, w2, e2, r2, h2⟩ := h1.enc1 EInt rfl shInt5 agInt
  obtain ⟨a3, p3, q3, w3, e3, r3, h3⟩ := h2.enc1 EInt rfl shInt5 agInt
  have rn := h3.nil'
  subst r0 r1 r2 r3 rn
  exact (lanesPush_law k05 kR05 kPush a0 a1 a2 a3 w0.2 w1.2.1 (fun x hx => (w1.1 x hx).2.2) w2 w3).args (.cons e0 (.cons e1 (.cons e2 (.cons e3 .nil))))
set_option maxRecDepth 100000 in
theorem lanesPush_lifted (os : Os) (started : os.Started) (H : Type) (enc : TypeId × Value → H) :
    ReturnsInHanded {} Try.checked os 3 .any (Rows.lanesPushSpec.pre6 enc Try.prog Try.f3 Rows.lanesPushRow.domain false) (Rows.lanesPushSpec.post enc Try.prog Try.f3 false true false false) := by
  refine returnsInHanded_of_change (C := Try.checked) ownGod started (by kernel_rfl) Try.func3
    (ChangeSpec.witness6 (enc := enc) (C := Try.checked) false ⟨#[], #[.slice none 0 0, .agg #[.slice none 0 0, .int .i64 0, .bool false], .int .i64 0, .int .i64 0], []⟩ 8 (by kernel_rfl) (by kernel_rfl) (by kernel_rfl) (by kernel_rfl)) ?_
  intro W base args ds gs before hval hW _ _
  exact law_call (n := 5) (fn := Try.f3) (s := Rows.lanesPushSpec) laidAll (by kernel_rfl) rfl Try.underlying4 rfl
    (fun ds hd => by match ds, hd with | [d0, d1, d2, d3], _ => rfl) (fun ps hp => args_lanesPush ps hp) hval hW
theorem lanesPush_holds : Rows.LanesPushSaid :=
  OpenClaim.holds_of_wide 3 Try.f3 rfl rfl rfl rfl rfl rfl rfl ⟨rfl, rfl, rfl, rfl, rfl⟩ rfl rfl rfl rfl rfl (by kernel_rfl) Try.func3 (by kernel_rfl)
    (of_decide_eq_true (by kernel_rfl)) (by unfold Func.isWrapper; first | (rw [if_pos (by decide +kernel)]; kernel_rfl) | (rw [if_neg (by decide +kernel)]; exact ⟨rfl, rfl⟩))
    (fun os started H enc _ => lanesPush_lifted os started H enc)
#print axioms lanesPush_holds
end Go.Proofs.Ytegfifeichfclaa
