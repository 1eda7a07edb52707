/-
  Chapter 1: SumNought.
-/
import Derived.Test.YtbfhhfbblnkdhaaS01e
namespace Lk.S01
open Go Lk Go.Proofs

theorem chk6 : chkFn Try.prog 6 1 c6 [2] = true := by kernel_rfl

def wv (c i : Nat) : Int := if c ≤ i then 2 ^ i - 2 ^ c else 0
theorem or_step0 : ∀ c, c ≤ 32 → ∀ i, i < 32 → c ≤ i → bitI0 .or .i64 (wv c i) (IntKind.i64.wrap (1 * 2 ^ (min i 64))) = wv c (i + 1) := by decide +kernel
theorem or_step {c i : Nat} (hc : c ≤ 32) (hi : i < 32) (h : c ≤ i) : bitI .or .i64 (wv c i) (shlI .i64 1 (i : Int)) = wv c (i + 1) := by
  rw [bitI_eq, shlI_eq]
  exact or_step0 c hc i hi h
theorem no_step {c i : Nat} (h : ¬ c ≤ i) : wv c i = wv c (i + 1) := by
  unfold wv
  rw [if_neg h]
  by_cases h1 : c ≤ i + 1
  · rw [if_pos h1, show c = i + 1 by omega]; omega
  · rw [if_neg h1]

theorem nought_stp (x : BitVec 32) (b : UInt8) : stp (fun _ => 0) x b = x >>> 8 := by
  unfold stp
  simp
theorem nought_sum : ∀ (s : List UInt8) (x : BitVec 32), s.foldl (stp fun _ => 0) x = x >>> (8 * s.length)
  | [], x => by simp
  | b :: r, x => by
    rw [List.foldl_cons, nought_stp, nought_sum r, ← BitVec.shiftRight_add]
    congr 1
    simp
    omega

def cut (s : List UInt8) : Nat := 32 - 8 * min s.length 4
theorem nought_val (s : List UInt8) : ((~~~ sumS (fun _ => 0) s).toNat : Int) = wv (cut s) 32 := by
  unfold sumS
  rw [nought_sum]
  unfold cut
  rcases Nat.lt_or_ge s.length 4 with h | h
  · have : s.length = 0 ∨ s.length = 1 ∨ s.length = 2 ∨ s.length = 3 := by omega
    rcases this with h | h | h | h <;> (rw [h]; decide +kernel)
  · rw [Nat.min_eq_right h, show (4294967295#32 : BitVec 32) >>> (8 * s.length) = 0#32 from ?_]
    · decide +kernel
    · apply BitVec.eq_of_getLsbD_eq
      intro i hi
      rw [BitVec.getLsbD_ushiftRight, BitVec.getLsbD_of_ge _ _ (by omega)]
      simp

set_option maxHeartbeats 8000000 in
set_option maxRecDepth 100000 in
theorem sumNought_law (s : List UInt8) : FnOk Try.prog 6 [.one (.str s)] [.one (.im (.bool true))] := by
  refine fnOk mixed chk6 ?_
  repeat' first
    | with_reducible refine NeedI.mk (fun h => h) ?_
    | with_reducible refine NeedI.mk (fun h => h.2) ?_
    | with_reducible refine NeedI.mk (fun h => h.1) ?_
    | with_reducible exact Done.mk
    | with_reducible refine Both.mk (fun _ => ?_) (fun _ => ?_)
    | with_reducible refine Need.mk (by first | omega | with_reducible exact CEq.refl _) ?_
    | (fail_if_success with_reducible refine LoopVC.mk ?_
       fail_if_success with_reducible refine Need.mk ?_ ?_
       fail_if_success with_reducible refine CallVC.mk ?_
       fail_if_success with_reducible refine LoopEnd.mk ?_
       fail_if_success with_reducible refine Out.mk ?_
       fail_if_success with_reducible show False
       fail_if_success with_reducible refine NeedI.mk ?_ ?_
       conv => whnf)
  · refine CallVC.mk' (fun _ => awake_ok) (fun _ => .nil) ?_
    repeat' first
      | with_reducible refine NeedI.mk (fun h => h) ?_
      | with_reducible refine NeedI.mk (fun h => h.2) ?_
      | with_reducible refine NeedI.mk (fun h => h.1) ?_
      | with_reducible exact Done.mk
      | with_reducible refine Both.mk (fun _ => ?_) (fun _ => ?_)
      | with_reducible refine Need.mk (by first | omega | with_reducible exact CEq.refl _) ?_
      | (fail_if_success with_reducible refine LoopVC.mk ?_
         fail_if_success with_reducible refine Need.mk ?_ ?_
         fail_if_success with_reducible refine CallVC.mk ?_
         fail_if_success with_reducible refine LoopEnd.mk ?_
         fail_if_success with_reducible refine Out.mk ?_
         fail_if_success with_reducible show False
         fail_if_success with_reducible refine NeedI.mk ?_ ?_
         conv => whnf)
  · rename_i hs
    simp only [decide_eq_false_iff_not] at hs
    have hcut : cut s ≤ 32 := by unfold cut; omega
    refine LoopVC.of (X := {i : Nat // i ≤ 32}) (fun i => stL [(0, .c (.str s)), (3, .c (.int .i64 (wv (cut s) i.1))), (11, .c (.int .i64 i.1))] [])
      (fun i => 32 - i.1) ⟨0, Nat.zero_le _⟩ (Le.of ⟨rfl, cI ?_, rfl, trivial⟩ trivial) ?_
    · show (0 : Int) = wv (cut s) 0
      unfold wv
      by_cases h : cut s ≤ 0
      · rw [if_pos h, show cut s = 0 by omega]; rfl
      · rw [if_neg h]
    rintro Q hQ ⟨i, hi⟩
    repeat' first
      | with_reducible refine NeedI.mk (fun h => h) ?_
      | with_reducible refine NeedI.mk (fun h => h.2) ?_
      | with_reducible refine NeedI.mk (fun h => h.1) ?_
      | with_reducible exact Done.mk
      | with_reducible refine Both.mk (fun _ => ?_) (fun _ => ?_)
      | with_reducible refine Need.mk (by first | omega | with_reducible exact CEq.refl _ | (simp only [decide_eq_true_eq, decide_eq_false_iff_not, rng, cond_false, cond_true] at *; omega)) ?_
      | (fail_if_success with_reducible refine LoopVC.mk ?_
         fail_if_success with_reducible refine Need.mk ?_ ?_
         fail_if_success with_reducible refine CallVC.mk ?_
         fail_if_success with_reducible refine LoopEnd.mk ?_
         fail_if_success with_reducible refine Out.mk ?_
         fail_if_success with_reducible show False
         fail_if_success with_reducible refine NeedI.mk ?_ ?_
         conv => whnf)
    · rename_i h1 h2
      simp only [decide_eq_true_eq, cond_false] at h1 h2
      have hi2 : i < 32 := by omega
      have hc : cut s ≤ i := by unfold cut; omega
      refine LoopEnd.mk ?_
      refine ⟨⟨i + 1, hi2⟩, by show 32 - (i + 1) < 32 - i; omega, Le.of ⟨rfl, cI (or_step hcut hi2 hc), cI (by simp), trivial⟩ trivial⟩
    · rename_i h1 h2
      simp only [decide_eq_true_eq, decide_eq_false_iff_not, cond_false] at h1 h2
      have hi2 : i < 32 := by omega
      have hc : ¬ cut s ≤ i := by unfold cut; omega
      refine LoopEnd.mk ?_
      refine ⟨⟨i + 1, hi2⟩, by show 32 - (i + 1) < 32 - i; omega, Le.of ⟨rfl, cI (no_step hc), cI (by simp), trivial⟩ trivial⟩
    · rename_i h
      simp only [decide_eq_false_iff_not] at h
      obtain rfl : i = 32 := by omega
      refine Out.mk (hQ _ _ ?_)
      repeat' first
        | with_reducible refine NeedI.mk (fun h => h) ?_
        | with_reducible refine NeedI.mk (fun h => h.2) ?_
        | with_reducible refine NeedI.mk (fun h => h.1) ?_
        | with_reducible exact Done.mk
        | with_reducible refine Both.mk (fun _ => ?_) (fun _ => ?_)
        | with_reducible refine Need.mk (by first | omega | with_reducible exact CEq.refl _ | (dsimp only; omega) | (simp; done)) ?_
        | (fail_if_success with_reducible refine LoopVC.mk ?_
           fail_if_success with_reducible refine Need.mk ?_ ?_
           fail_if_success with_reducible refine CallVC.mk ?_
           fail_if_success with_reducible refine LoopEnd.mk ?_
           fail_if_success with_reducible refine Out.mk ?_
           fail_if_success with_reducible show False
           fail_if_success with_reducible refine NeedI.mk ?_ ?_
           conv => whnf)
      refine CallVC.mk' (fun _ => sum_ok (fun _ => 0) s (by omega)) (fun _ => .cons (.one (CEq.slice fun i hi j hj => ?_)) (.cons (.one (CEq.refl _)) .nil)) ?_
      · obtain rfl : j = 0 := by omega
        exact CEq.refl _
      repeat' first
        | with_reducible refine NeedI.mk (fun h => h) ?_
        | with_reducible refine NeedI.mk (fun h => h.2) ?_
        | with_reducible refine NeedI.mk (fun h => h.1) ?_
        | with_reducible exact Done.mk
        | with_reducible refine Both.mk (fun _ => ?_) (fun _ => ?_)
        | with_reducible refine Need.mk (by first | omega | with_reducible exact CEq.refl _) ?_
        | (fail_if_success with_reducible refine LoopVC.mk ?_
           fail_if_success with_reducible refine Need.mk ?_ ?_
           fail_if_success with_reducible refine CallVC.mk ?_
           fail_if_success with_reducible refine LoopEnd.mk ?_
           fail_if_success with_reducible refine Out.mk ?_
           fail_if_success with_reducible show False
           fail_if_success with_reducible refine NeedI.mk ?_ ?_
           conv => whnf)
      refine CallVC.mk' (fun _ => awake_ok) (fun _ => .nil) ?_
      repeat' first
        | with_reducible refine NeedI.mk (fun h => h) ?_
        | with_reducible refine NeedI.mk (fun h => h.2) ?_
        | with_reducible refine NeedI.mk (fun h => h.1) ?_
        | with_reducible exact Done.mk
        | with_reducible refine Both.mk (fun _ => ?_) (fun _ => ?_)
        | with_reducible refine Need.mk (by first | omega | with_reducible exact CEq.refl _) ?_
        | (fail_if_success with_reducible refine LoopVC.mk ?_
           fail_if_success with_reducible refine Need.mk ?_ ?_
           fail_if_success with_reducible refine CallVC.mk ?_
           fail_if_success with_reducible refine LoopEnd.mk ?_
           fail_if_success with_reducible refine Out.mk ?_
           fail_if_success with_reducible show False
           fail_if_success with_reducible refine NeedI.mk ?_ ?_
           conv => whnf)
      refine Need.mk (eB ?_) ?_
      · rw [nought_val]; simp
      · repeat' first
          | with_reducible refine NeedI.mk (fun h => h) ?_
          | with_reducible refine NeedI.mk (fun h => h.2) ?_
          | with_reducible refine NeedI.mk (fun h => h.1) ?_
          | with_reducible exact Done.mk
          | with_reducible refine Both.mk (fun _ => ?_) (fun _ => ?_)
          | with_reducible refine Need.mk (by with_reducible exact CEq.refl _) ?_
          | (fail_if_success with_reducible refine LoopVC.mk ?_
             fail_if_success with_reducible refine Need.mk ?_ ?_
             fail_if_success with_reducible refine CallVC.mk ?_
             fail_if_success with_reducible refine LoopEnd.mk ?_
             fail_if_success with_reducible refine Out.mk ?_
             fail_if_success with_reducible show False
             fail_if_success with_reducible refine NeedI.mk ?_ ?_
             conv => whnf)
end Lk.S01
