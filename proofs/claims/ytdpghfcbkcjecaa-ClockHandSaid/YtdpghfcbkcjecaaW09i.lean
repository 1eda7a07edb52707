/-
  Chapter 9: ClockHand.
-/
import Derived.Test.YtdpghfcbkcjecaaW09h
namespace Lk.S09
open Go Lk Lk.C

theorem ahead_fresh {c : Clk} (hg : c.goes) {j : Nat} (hj : j < distK c.n c.h c.at') : c.fresh (posK c.n c.h j) = false := by
  have hr := hg.1
  have hn : 0 < c.n := by have := hr.1; unfold Clk.n; omega
  have hh : c.h < c.n := by have := hr.2.2; unfold Clk.n Clk.h; omega
  have h2 := distK_lt (h := c.h) (i := c.at') hn
  have hk : j < c.k1 := by
    by_cases h1 : c.k1 < c.n
    · have hs : c.stop = c.k1 := by unfold Clk.stop; rw [if_pos h1]
      have : distK c.n c.h c.at' = c.k1 := by unfold Clk.at'; rw [hs, dist_pos hh h1]
      omega
    · omega
  exact fstN_ahead (p := fun k => c.loose (posK c.n c.h k) && !(c.fr (posK c.n c.h k)).used) hk

section
variable {P : Program} {F : Nat → Nat}

set_option maxHeartbeats 8000000 in
set_option maxRecDepth 100000 in
theorem clockHand_law (K : KClock P F) (R : KRef P F) (L : KLaw P F) (hk : law09_ClockHand_k P F) (c : Clk) (hl : c.frames.length ≤ 9223372036854775807) :
    FnOk P (F 12) [.many 2 (clkE c)] [.one (.im (.bool true))] := by
  have hcl : c.copy.frames.length ≤ 40 := by
    unfold Clk.copy; split
    · assumption
    · simp
  refine fnOk K.m hk ?_
  repeat' first
    | with_reducible refine NeedI.mk (fun h => h) ?_
    | with_reducible refine NeedI.mk (fun h => h.2) ?_
    | with_reducible refine NeedI.mk (fun h => h.1) ?_
    | with_reducible exact Done.mk
    | with_reducible refine Both.mk (fun _ => ?_) (fun _ => ?_)
    | with_reducible refine Both2.mk (fun _ => ?_) ?_
    | with_reducible refine Need.mk (by with_reducible exact Nat.le_of_eq (Nat.zero_add _)) ?_
    | (fail_if_success with_reducible refine LoopVC.mk ?_
       fail_if_success with_reducible refine Need.mk ?_ ?_
       fail_if_success with_reducible refine CallVC.mk ?_
       fail_if_success with_reducible refine LoopEnd.mk ?_
       fail_if_success with_reducible refine Out.mk ?_
       fail_if_success with_reducible show False
       fail_if_success with_reducible refine NeedI.mk ?_ ?_
       conv => whnf)
  refine CallVC.mk' (fun _ => lawRef_ok K.m L.ref c hl) (fun _ => .cons ((.many fun j hj => by (rcases (show j = 0 ∨ j = 1 by omega) with rfl | rfl <;> exact CEq.refl _))) .nil) ?_
  repeat' first
    | with_reducible refine NeedI.mk (fun h => h) ?_
    | with_reducible refine NeedI.mk (fun h => h.2) ?_
    | with_reducible refine NeedI.mk (fun h => h.1) ?_
    | with_reducible exact Done.mk
    | with_reducible refine Both.mk (fun _ => ?_) (fun _ => ?_)
    | with_reducible refine Both2.mk (fun _ => ?_) ?_
    | with_reducible refine Need.mk (by with_reducible exact Nat.le_of_eq (Nat.zero_add _)) ?_
    | (fail_if_success with_reducible refine LoopVC.mk ?_
       fail_if_success with_reducible refine Need.mk ?_ ?_
       fail_if_success with_reducible refine CallVC.mk ?_
       fail_if_success with_reducible refine LoopEnd.mk ?_
       fail_if_success with_reducible refine Out.mk ?_
       fail_if_success with_reducible show False
       fail_if_success with_reducible refine NeedI.mk ?_ ?_
       conv => whnf)
  refine CallVC.mk' (fun _ => refRight_ok K.m R.right c.copy (by omega)) (fun _ => .cons ((.many fun j hj => by (rcases (show j = 0 ∨ j = 1 by omega) with rfl | rfl <;> exact CEq.refl _))) .nil) ?_
  repeat' first
    | with_reducible refine NeedI.mk (fun h => h) ?_
    | with_reducible refine NeedI.mk (fun h => h.2) ?_
    | with_reducible refine NeedI.mk (fun h => h.1) ?_
    | with_reducible exact Done.mk
    | with_reducible refine Both.mk (fun _ => ?_) (fun _ => ?_)
    | with_reducible refine Both2.mk (fun _ => ?_) ?_
    | with_reducible refine Need.mk (by with_reducible exact Nat.le_of_eq (Nat.zero_add _)) ?_
    | (fail_if_success with_reducible refine LoopVC.mk ?_
       fail_if_success with_reducible refine Need.mk ?_ ?_
       fail_if_success with_reducible refine CallVC.mk ?_
       fail_if_success with_reducible refine LoopEnd.mk ?_
       fail_if_success with_reducible refine Out.mk ?_
       fail_if_success with_reducible show False
       fail_if_success with_reducible refine NeedI.mk ?_ ?_
       conv => whnf)
  · refine CallVC.mk' (fun _ => awake_ok K L.awake) (fun _ => .nil) ?_
    repeat' first
      | with_reducible refine NeedI.mk (fun h => h) ?_
      | with_reducible refine NeedI.mk (fun h => h.2) ?_
      | with_reducible refine NeedI.mk (fun h => h.1) ?_
      | with_reducible exact Done.mk
      | with_reducible refine Both.mk (fun _ => ?_) (fun _ => ?_)
      | with_reducible refine Both2.mk (fun _ => ?_) ?_
      | with_reducible refine Need.mk (by with_reducible exact CEq.refl _) ?_
      | (fail_if_success with_reducible refine LoopVC.mk ?_
         fail_if_success with_reducible refine Need.mk ?_ ?_
         fail_if_success with_reducible refine CallVC.mk ?_
         fail_if_success with_reducible refine LoopEnd.mk ?_
         fail_if_success with_reducible refine Out.mk ?_
         fail_if_success with_reducible show False
         fail_if_success with_reducible refine NeedI.mk ?_ ?_
         conv => whnf)
  rename_i h
  have h40 : c.frames.length ≤ 40 := by simp only [Bool.or_eq_false_iff, Bool.not_eq_false', decide_eq_true_eq] at h; exact h.1
  rw [copy_eq h40] at h
  have hr : right c := by simp only [Bool.or_eq_false_iff, Bool.not_eq_false', decide_eq_true_eq] at h; exact h.2
  have hn8 : c.frames.length ≤ 8 := hr.2.1
  have hn : 0 < c.n := by have := hr.1; unfold Clk.n; omega
  have hh : c.h < c.n := by have := hr.2.2; unfold Clk.n Clk.h; omega
  have hhi : (c.h : Int) = c.hand := by have := hr.2.2.1; unfold Clk.h; omega
  have hat : c.at' < c.frames.length := at_lt hr
  refine CallVC.mk' (fun _ => sweep_ok K c (by omega)) (fun _ => .cons ((.many fun j hj => by (rcases (show j = 0 ∨ j = 1 by omega) with rfl | rfl <;> exact CEq.refl _))) .nil) ?_
  repeat' first
    | with_reducible refine NeedI.mk (fun h => h) ?_
    | with_reducible refine NeedI.mk (fun h => h.2) ?_
    | with_reducible refine NeedI.mk (fun h => h.1) ?_
    | with_reducible exact Done.mk
    | with_reducible refine Both.mk (fun _ => ?_) (fun _ => ?_)
    | with_reducible refine Both2.mk (fun _ => ?_) ?_
    | with_reducible refine Need.mk (by with_reducible exact Nat.le_of_eq (Nat.zero_add _)) ?_
    | (fail_if_success with_reducible refine LoopVC.mk ?_
       fail_if_success with_reducible refine Need.mk ?_ ?_
       fail_if_success with_reducible refine CallVC.mk ?_
       fail_if_success with_reducible refine LoopEnd.mk ?_
       fail_if_success with_reducible refine Out.mk ?_
       fail_if_success with_reducible show False
       fail_if_success with_reducible refine NeedI.mk ?_ ?_
       conv => whnf)
  · rename_i h2
    refine CallVC.mk' (fun _ => awake_ok K L.awake) (fun _ => .nil) ?_
    repeat' first
      | with_reducible refine NeedI.mk (fun h => h) ?_
      | with_reducible refine NeedI.mk (fun h => h.2) ?_
      | with_reducible refine NeedI.mk (fun h => h.1) ?_
      | with_reducible exact Done.mk
      | with_reducible refine Both.mk (fun _ => ?_) (fun _ => ?_)
      | with_reducible refine Both2.mk (fun _ => ?_) ?_
      | with_reducible refine Need.mk (by with_reducible exact Nat.le_of_eq (Nat.zero_add _)) ?_
      | (fail_if_success with_reducible refine LoopVC.mk ?_
         fail_if_success with_reducible refine Need.mk ?_ ?_
         fail_if_success with_reducible refine CallVC.mk ?_
         fail_if_success with_reducible refine LoopEnd.mk ?_
         fail_if_success with_reducible refine Out.mk ?_
         fail_if_success with_reducible show False
         fail_if_success with_reducible refine NeedI.mk ?_ ?_
         conv => whnf)
    have hg : ¬ c.goes := by simpa using h2
    refine Need.mk (eB (by rw [show c.who = 0 from if_neg hg, show c.sw = c from if_neg hg]; simp)) ?_
    repeat' first
      | with_reducible refine NeedI.mk (fun h => h) ?_
      | with_reducible refine NeedI.mk (fun h => h.2) ?_
      | with_reducible refine NeedI.mk (fun h => h.1) ?_
      | with_reducible exact Done.mk
      | with_reducible refine Both.mk (fun _ => ?_) (fun _ => ?_)
      | with_reducible refine Both2.mk (fun _ => ?_) ?_
      | with_reducible refine Need.mk (by with_reducible exact Nat.le_of_eq (Nat.zero_add _)) ?_
      | (fail_if_success with_reducible refine LoopVC.mk ?_
         fail_if_success with_reducible refine Need.mk ?_ ?_
         fail_if_success with_reducible refine CallVC.mk ?_
         fail_if_success with_reducible refine LoopEnd.mk ?_
         fail_if_success with_reducible refine Out.mk ?_
         fail_if_success with_reducible show False
         fail_if_success with_reducible refine NeedI.mk ?_ ?_
         conv => whnf)
  · rename_i h2
    have hg : c.goes := by simpa using h2
    have hsw : c.sw = c.swept := if_pos hg
    have hwho : c.who = (c.at' : Int) := if_pos hg
    have hhand : c.swept.hand = ((c.at' : Int) + 1) % (c.frames.length : Int) := by
      show ((posK c.n c.h (c.stop + 1) : Nat) : Int) = _
      rw [← posK_succ]; push_cast; rfl
    rw [hwho, hsw]
    repeat' first
      | with_reducible refine NeedI.mk (fun h => h) ?_
      | with_reducible refine NeedI.mk (fun h => h.2) ?_
      | with_reducible refine NeedI.mk (fun h => h.1) ?_
      | with_reducible exact Done.mk
      | with_reducible refine Both.mk (fun _ => ?_) (fun _ => ?_)
      | with_reducible refine Both2.mk (fun _ => ?_) ?_
      | with_reducible refine Need.mk (by first | omega | with_reducible exact CEq.refl _ | (intro _; omega) | (simp only [decide_eq_true_eq, decide_eq_false_iff_not, Bool.or_eq_true, Bool.and_eq_true, Bool.or_eq_false_iff, Int.toNat_natCast, addN_eq, rng] at *; omega) | (intro _; simp only [decide_eq_true_eq, decide_eq_false_iff_not, Bool.or_eq_true, Bool.and_eq_true, Bool.or_eq_false_iff, Int.toNat_natCast, addN_eq, rng] at *; omega)) ?_
      | (fail_if_success with_reducible refine LoopVC.mk ?_
         fail_if_success with_reducible refine Need.mk ?_ ?_
         fail_if_success with_reducible refine CallVC.mk ?_
         fail_if_success with_reducible refine LoopEnd.mk ?_
         fail_if_success with_reducible refine Out.mk ?_
         fail_if_success with_reducible show False
         fail_if_success with_reducible refine NeedI.mk ?_ ?_
         conv => whnf)
    · rename_i h4
      exfalso
      simp only [hhand] at h4
      simp only [Bool.or_eq_true, decide_eq_true_eq, Bool.not_eq_true', decide_eq_false_iff_not] at h4
      rcases h4 with (h4 | h4) | h4
      · omega
      · omega
      · exact h4 trivial
    · refine LoopVC.inv (fun j : Nat => j ≤ distK c.n c.h c.at') (fun j => stL [(1, .va 1 0 0), (6, .c (.int .i64 c.at')), (8, .c (.int .i64 c.frames.length)), (9, .c (.int .i64 (posK c.n c.h j)))]
          [(1, vE [.c (slL 3 frmE c.frames), .c (.int .i64 c.hand)])])
        (fun j => distK c.n c.h c.at' - j) 0 (Nat.zero_le _) (Le.of ⟨⟨rfl, rfl, rfl⟩, rfl, rfl, cI ?_, trivial⟩ ⟨⟨_, rfl, SubE.var2 (CEq.refl _) rfl⟩, trivial⟩) ?_
      · unfold posK; rw [Nat.add_zero, Nat.mod_eq_of_lt hh]; exact hhi.symm
      rintro Q hQ j hj
      have hp : posK c.n c.h j < c.frames.length := posK_lt hn
      have hd : distK c.n c.h c.at' < c.n := distK_lt hn
      have hne : j < distK c.n c.h c.at' ↔ posK c.n c.h j ≠ c.at' := by
        constructor
        · intro h1 h2
          have := dist_pos hh (show j < c.n by omega)
          rw [h2] at this; omega
        · intro h1
          rcases Nat.lt_or_ge j (distK c.n c.h c.at') with h | h
          · exact h
          · exact absurd (by rw [show j = distK c.n c.h c.at' by omega]; exact pos_dist hh hat) h1
      repeat' first
        | with_reducible refine NeedI.mk (fun h => h) ?_
        | with_reducible refine NeedI.mk (fun h => h.2) ?_
        | with_reducible refine NeedI.mk (fun h => h.1) ?_
        | with_reducible exact Done.mk
        | with_reducible refine Both.mk (fun _ => ?_) (fun _ => ?_)
        | with_reducible refine Both2.mk (fun _ => ?_) ?_
        | with_reducible refine Need.mk (by first | omega | with_reducible exact CEq.refl _ | (intro _; omega) | (simp only [decide_eq_true_eq, decide_eq_false_iff_not, Bool.or_eq_true, Bool.and_eq_true, Bool.or_eq_false_iff, Int.toNat_natCast, addN_eq, rng] at *; omega) | (intro _; simp only [decide_eq_true_eq, decide_eq_false_iff_not, Bool.or_eq_true, Bool.and_eq_true, Bool.or_eq_false_iff, Int.toNat_natCast, addN_eq, rng] at *; omega)) ?_
        | (fail_if_success with_reducible refine LoopVC.mk ?_
           fail_if_success with_reducible refine Need.mk ?_ ?_
           fail_if_success with_reducible refine CallVC.mk ?_
           fail_if_success with_reducible refine LoopEnd.mk ?_
           fail_if_success with_reducible refine Out.mk ?_
           fail_if_success with_reducible show False
           fail_if_success with_reducible refine NeedI.mk ?_ ?_
           conv => whnf)
      · rename_i h5 h6
        exfalso
        have h7 : j < distK c.n c.h c.at' := hne.2 fun he => by rw [he] at h5; simp at h5
        have h8 := ahead_fresh hg h7
        have h9 : c.fresh (posK c.n c.h j) = true := h6
        rw [h9] at h8; cases h8
      · rename_i h5 h6
        have h7 : j < distK c.n c.h c.at' := hne.2 fun he => by rw [he] at h5; simp at h5
        refine LoopEnd.mk ⟨j + 1, h7, by omega, Le.of ⟨⟨rfl, rfl, rfl⟩, rfl, rfl, cI ?_, trivial⟩ ⟨⟨_, rfl, SubE.var2 (CEq.refl _) rfl⟩, trivial⟩⟩
        show ((posK c.n c.h j : Int) + 1) % (c.frames.length : Int) = _
        rw [← posK_succ]; push_cast; rfl
      · refine Out.mk (hQ _ _ ?_)
        repeat' first
          | with_reducible refine NeedI.mk (fun h => h) ?_
          | with_reducible refine NeedI.mk (fun h => h.2) ?_
          | with_reducible refine NeedI.mk (fun h => h.1) ?_
          | with_reducible exact Done.mk
          | with_reducible refine Both.mk (fun _ => ?_) (fun _ => ?_)
          | with_reducible refine Both2.mk (fun _ => ?_) ?_
          | with_reducible refine Need.mk (by with_reducible exact Nat.le_of_eq (Nat.zero_add _)) ?_
          | (fail_if_success with_reducible refine LoopVC.mk ?_
             fail_if_success with_reducible refine Need.mk ?_ ?_
             fail_if_success with_reducible refine CallVC.mk ?_
             fail_if_success with_reducible refine LoopEnd.mk ?_
             fail_if_success with_reducible refine Out.mk ?_
             fail_if_success with_reducible show False
             fail_if_success with_reducible refine NeedI.mk ?_ ?_
             conv => whnf)
        refine CallVC.mk' (fun _ => awake_ok K L.awake) (fun _ => .nil) ?_
        repeat' first
          | with_reducible refine NeedI.mk (fun h => h) ?_
          | with_reducible refine NeedI.mk (fun h => h.2) ?_
          | with_reducible refine NeedI.mk (fun h => h.1) ?_
          | with_reducible exact Done.mk
          | with_reducible refine Both.mk (fun _ => ?_) (fun _ => ?_)
          | with_reducible refine Both2.mk (fun _ => ?_) ?_
          | with_reducible refine Need.mk (by with_reducible exact CEq.refl _) ?_
          | (fail_if_success with_reducible refine LoopVC.mk ?_
             fail_if_success with_reducible refine Need.mk ?_ ?_
             fail_if_success with_reducible refine CallVC.mk ?_
             fail_if_success with_reducible refine LoopEnd.mk ?_
             fail_if_success with_reducible refine Out.mk ?_
             fail_if_success with_reducible show False
             fail_if_success with_reducible refine NeedI.mk ?_ ?_
             conv => whnf)
end
end Lk.S09
