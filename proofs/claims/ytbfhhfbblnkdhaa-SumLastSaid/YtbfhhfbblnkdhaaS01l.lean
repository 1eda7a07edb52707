/- For every string and two bytes SumLast returns true, and the arguments read behind the call as they read before: no condition. -/
import Derived.Test.YtbfhhfbblnkdhaaS01k
import Derived.ProofKit
namespace Go.Proofs.Ytbfhhfbblnkdhaa
open Go.ChangeShapes Go.WideShapes Go.ChangeAt Go.RowKit Lk Lk.S01

theorem ownGod : ownKnob Try.prog.godebug = none := by kernel_rfl
theorem laidAll : laidOutB Try.prog = true := by kernel_rfl
theorem shStr : shT Try.prog 4 9 = [.str] := by kernel_rfl
theorem oneStr : isAggT Try.prog 9 = false := by kernel_rfl

theorem shU8 : shT Try.prog 4 5 = [.int .u8] := by kernel_rfl
theorem oneU8 : isAggT Try.prog 5 = false := by kernel_rfl

theorem u8_of {n : Int} (h : rng .u8 n) : ∃ a : UInt8, n = (a.toNat : Int) := by
  simp only [rng] at h
  refine ⟨UInt8.ofNat n.toNat, ?_⟩
  rw [UInt8.toNat_ofNat']
  omega

theorem args3 {ps : List PV} (h : SPs Try.prog 4 [9, 5, 5] ps) : ∃ s a b, ps = [.one (.str s), .one (.int .u8 ((a : UInt8).toNat : Int)), .one (.int .u8 ((b : UInt8).toNat : Int))] := by
  cases h with
  | many ht hf h => rw [oneStr] at ht; cases ht
  | one ht hs hc h =>
    rw [shStr] at hs
    cases hs
    cases hc with
    | str s _ =>
      cases h with
      | many ht hf h => rw [oneU8] at ht; cases ht
      | one ht hs hc h =>
        rw [shU8] at hs
        cases hs
        cases hc with
        | int _ n hn =>
          cases h with
          | many ht hf h => rw [oneU8] at ht; cases ht
          | one ht hs hc h =>
            rw [shU8] at hs
            cases hs
            cases hc with
            | int _ m hm =>
              cases h
              obtain ⟨a, rfl⟩ := u8_of hn
              obtain ⟨b, rfl⟩ := u8_of hm
              exact ⟨s, a, b, rfl⟩

set_option maxRecDepth 100000 in
theorem sumLast_lifted (os : Os) (started : os.Started) (H : Type) (enc : TypeId × Value → H) :
    ReturnsInHanded {} Try.checked os 7 .any (Rows.sumLastSpec.pre6 enc Try.prog Try.f7 Rows.sumLastRow.domain false) (Rows.sumLastSpec.post enc Try.prog Try.f7 false true false false) := by
  refine returnsInHanded_of_change (C := Try.checked) ownGod started (by kernel_rfl) Try.func7
    (ChangeSpec.witness6 (enc := enc) (C := Try.checked) false ⟨#[], #[.string ⟨⟨[]⟩⟩, .int .u8 0, .int .u8 0], []⟩ 8 (by kernel_rfl) (by kernel_rfl) (by kernel_rfl) (by kernel_rfl)) ?_
  intro W base args ds gs before hval hW _ _
  exact law_call (n := 4) (fn := Try.f7) (s := Rows.sumLastSpec) laidAll (by kernel_rfl) rfl Try.underlying4 rfl
    (fun ds hd => by match ds, hd with | [d1, d2, d3], _ => rfl)
    (fun ps hp => by obtain ⟨s, a, b, rfl⟩ := args3 hp; exact sumLast_law s a b) hval hW

theorem sumLast_holds : Rows.SumLastSaid :=
  OpenClaim.holds_of_wide 7 Try.f7 rfl rfl rfl rfl rfl rfl rfl ⟨rfl, rfl, rfl, rfl, rfl⟩ rfl rfl rfl rfl rfl (by kernel_rfl) Try.func7 (by kernel_rfl)
    (of_decide_eq_true (by kernel_rfl)) (by unfold Func.isWrapper; first | (rw [if_pos (by decide +kernel)]; kernel_rfl) | (rw [if_neg (by decide +kernel)]; exact ⟨rfl, rfl⟩))
    (fun os started H enc _ => sumLast_lifted os started H enc)
#print axioms sumLast_holds
end Go.Proofs.Ytbfhhfbblnkdhaa
