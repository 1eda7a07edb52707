/- For every string SumNought returns true, and the string reads behind the call as it read before: no condition. -/
import Derived.Test.YtbfhhfbblnkdhaaS01h
import Derived.ProofKit
namespace Go.Proofs.Ytbfhhfbblnkdhaa
open Go.ChangeShapes Go.WideShapes Go.ChangeAt Go.RowKit Lk Lk.S01

theorem ownGod : ownKnob Try.prog.godebug = none := by kernel_rfl
theorem laidAll : laidOutB Try.prog = true := by kernel_rfl
theorem shStr : shT Try.prog 4 9 = [.str] := by kernel_rfl
theorem oneStr : isAggT Try.prog 9 = false := by kernel_rfl

theorem one_str {ps : List PV} (h : SPs Try.prog 4 [9] ps) : ∃ s, ps = [.one (.str s)] := by
  cases h with
  | one ht hs hc h =>
    rw [shStr] at hs
    cases hs
    cases hc with
    | str s _ => cases h; exact ⟨s, rfl⟩
  | many ht hf h => rw [oneStr] at ht; cases ht

set_option maxRecDepth 100000 in
theorem sumNought_lifted (os : Os) (started : os.Started) (H : Type) (enc : TypeId × Value → H) :
    ReturnsInHanded {} Try.checked os 6 .any (Rows.sumNoughtSpec.pre6 enc Try.prog Try.f6 Rows.sumNoughtRow.domain false) (Rows.sumNoughtSpec.post enc Try.prog Try.f6 false true false false) := by
  refine returnsInHanded_of_change (C := Try.checked) ownGod started (by kernel_rfl) Try.func6
    (ChangeSpec.witness6 (enc := enc) (C := Try.checked) false ⟨#[], #[.string ⟨⟨[]⟩⟩], []⟩ 8 (by kernel_rfl) (by kernel_rfl) (by kernel_rfl) (by kernel_rfl)) ?_
  intro W base args ds gs before hval hW _ _
  exact law_call (n := 4) (fn := Try.f6) (s := Rows.sumNoughtSpec) laidAll (by kernel_rfl) rfl Try.underlying4 rfl
    (fun ds hd => by match ds, hd with | [d], _ => rfl)
    (fun ps hp => by obtain ⟨s, rfl⟩ := one_str hp; exact sumNought_law s) hval hW

theorem sumNought_holds : Rows.SumNoughtSaid :=
  OpenClaim.holds_of_wide 6 Try.f6 rfl rfl rfl rfl rfl rfl rfl ⟨rfl, rfl, rfl, rfl, rfl⟩ rfl rfl rfl rfl rfl (by kernel_rfl) Try.func6 (by kernel_rfl)
    (of_decide_eq_true (by kernel_rfl)) (by unfold Func.isWrapper; first | (rw [if_pos (by decide +kernel)]; kernel_rfl) | (rw [if_neg (by decide +kernel)]; exact ⟨rfl, rfl⟩))
    (fun os started H enc _ => sumNought_lifted os started H enc)
#print axioms sumNought_holds
end Go.Proofs.Ytbfhhfbblnkdhaa
