/-
  Chapter 9: the document's sweep.
-/
import Derived.Test.YtdpghfcbkcjecaaW09d
import Derived.Test.YtdpghfcbkcjecaaLkC
namespace Lk.S09
open Go Lk Lk.C

theorem fst_false (c : Clk) : c.fst false = c.k1 := by unfold Clk.fst Clk.k1; congr 1
theorem fst_true (c : Clk) : c.fst true = c.k2 := by
  unfold Clk.fst Clk.k2; congr 1; funext k; simp

def Clk.whoR (c : Clk) : Int := if c.goes then (c.at' : Int) else -1

section
variable {P : Program} {F : Nat → Nat}
structure KRef (P : Program) (F : Nat → Nat) : Prop where
  m : P.follows .mixedOrders = true
  right : ref09_Right_k P F
  first : ref09_first_k P F
  sweep : ref09_Sweep_k P F
  same : ref09_Same_k P F

set_option maxHeartbeats 8000000 in
set_option maxRecDepth 100000 in
theorem refSweep_ok (K : KRef P F) (c : Clk) (hr : right c) : FnOk P (F 7) [.many 2 (clkE c)] [.many 2 (fun j => .im (clkE c.sw j)), .one (.im (.int .i64 c.whoR))] := by
  have hn : 0 < c.n := by have := hr.1; unfold Clk.n; omega
  have hh : (c.h : Int) = c.hand := by have := hr.2.2.1; unfold Clk.h; omega
  have hhn : c.h < c.n := by have := hr.2.2; unfold Clk.n Clk.h; omega
  have hnl : c.n ≤ 8 := hr.2.1
  have hnl' : c.frames.length ≤ 8 := hnl
  have hb1 := hr.2.2.1
  have hb2 := hr.2.2.2.1
  have hnn : c.n = c.frames.length := rfl
  have hk1 : c.k1 ≤ c.n := fstN_le _ _
  have hk2 : c.k2 ≤ c.n := fstN_le _ _
  refine fnOk K.m K.sweep ?_
  repeat' first
    | with_reducible refine NeedI.mk (fun h => h) ?_
    | with_reducible refine NeedI.mk (fun h => h.2) ?_
    | with_reducible refine NeedI.mk (fun h => h.1) ?_
    | with_reducible exact Done.mk
    | with_reducible refine Both.mk (fun _ => ?_) (fun _ => ?_)
    | with_reducible refine Both2.mk (fun _ => ?_) ?_
    | with_reducible refine Need.mk (by with_reducible exact Nat.le_of_eq (Nat.zero_add _)) ?_
    | (fail_if_success with_reducible refine LoopVC.mk ?_
       fail_if_success with_reducible refine Need.mk ?_ ?_
       fail_if_success with_reducible refine CallVC.mk ?_
       fail_if_success with_reducible refine LoopEnd.mk ?_
       fail_if_success with_reducible refine Out.mk ?_
       fail_if_success with_reducible show False
       fail_if_success with_reducible refine NeedI.mk ?_ ?_
       conv => whnf)
  refine CallVC.mk' (fun _ => first_ok K.m K.first c false hr) (fun _ => .cons ((.many fun j hj => by (rcases (show j = 0 ∨ j = 1 by omega) with rfl | rfl <;> exact CEq.refl _))) (.cons (.one (CEq.refl _)) .nil)) ?_
  rw [fst_false]
  repeat' first
    | with_reducible refine NeedI.mk (fun h => h) ?_
    | with_reducible refine NeedI.mk (fun h => h.2) ?_
    | with_reducible refine NeedI.mk (fun h => h.1) ?_
    | with_reducible exact Done.mk
    | with_reducible refine Both.mk (fun _ => ?_) (fun _ => ?_)
    | with_reducible refine Both2.mk (fun _ => ?_) ?_
    | with_reducible refine Need.mk (by with_reducible exact Nat.le_of_eq (Nat.zero_add _)) ?_
    | (fail_if_success with_reducible refine LoopVC.mk ?_
       fail_if_success with_reducible refine Need.mk ?_ ?_
       fail_if_success with_reducible refine CallVC.mk ?_
       fail_if_success with_reducible refine LoopEnd.mk ?_
       fail_if_success with_reducible refine Out.mk ?_
       fail_if_success with_reducible show False
       fail_if_success with_reducible refine NeedI.mk ?_ ?_
       conv => whnf)
  · rename_i h1
    simp only [decide_eq_true_eq] at h1
    have h1 : ¬ c.k1 < c.n := fun h => by rw [if_pos h] at h1; omega
    refine CallVC.mk' (fun _ => first_ok K.m K.first c true hr) (fun _ => .cons ((.many fun j hj => by (rcases (show j = 0 ∨ j = 1 by omega) with rfl | rfl <;> exact CEq.refl _))) (.cons (.one (CEq.refl _)) .nil)) ?_
    rw [fst_true]
    repeat' first
      | with_reducible refine NeedI.mk (fun h => h) ?_
      | with_reducible refine NeedI.mk (fun h => h.2) ?_
      | with_reducible refine NeedI.mk (fun h => h.1) ?_
      | with_reducible exact Done.mk
      | with_reducible refine Both.mk (fun _ => ?_) (fun _ => ?_)
      | with_reducible refine Both2.mk (fun _ => ?_) ?_
      | with_reducible refine Need.mk (by with_reducible exact Nat.le_of_eq (Nat.zero_add _)) ?_
      | (fail_if_success with_reducible refine LoopVC.mk ?_
         fail_if_success with_reducible refine Need.mk ?_ ?_
         fail_if_success with_reducible refine CallVC.mk ?_
         fail_if_success with_reducible refine LoopEnd.mk ?_
         fail_if_success with_reducible refine Out.mk ?_
         fail_if_success with_reducible show False
         fail_if_success with_reducible refine NeedI.mk ?_ ?_
         conv => whnf)
    · rename_i h2
      simp only [decide_eq_true_eq] at h2
      have h2 : ¬ c.any := fun h => by
        unfold Clk.any at h
        rw [if_pos h] at h2; omega
      have hg : ¬ c.goes := fun h => h2 h.2
      refine Need.mk (by rw [Clk.sw, if_neg hg]; exact CEq.refl _) ?_
      repeat' first
        | with_reducible refine NeedI.mk (fun h => h) ?_
        | with_reducible refine NeedI.mk (fun h => h.2) ?_
        | with_reducible refine NeedI.mk (fun h => h.1) ?_
        | with_reducible exact Done.mk
        | with_reducible refine Both.mk (fun _ => ?_) (fun _ => ?_)
        | with_reducible refine Both2.mk (fun _ => ?_) ?_
        | with_reducible refine Need.mk (by with_reducible exact Nat.le_of_eq (Nat.zero_add _)) ?_
        | (fail_if_success with_reducible refine LoopVC.mk ?_
           fail_if_success with_reducible refine Need.mk ?_ ?_
           fail_if_success with_reducible refine CallVC.mk ?_
           fail_if_success with_reducible refine LoopEnd.mk ?_
           fail_if_success with_reducible refine Out.mk ?_
           fail_if_success with_reducible show False
           fail_if_success with_reducible refine NeedI.mk ?_ ?_
           conv => whnf)
      refine Need.mk (by rw [Clk.sw, if_neg hg]; exact CEq.refl _) ?_
      repeat' first
        | with_reducible refine NeedI.mk (fun h => h) ?_
        | with_reducible refine NeedI.mk (fun h => h.2) ?_
        | with_reducible refine NeedI.mk (fun h => h.1) ?_
        | with_reducible exact Done.mk
        | with_reducible refine Both.mk (fun _ => ?_) (fun _ => ?_)
        | with_reducible refine Both2.mk (fun _ => ?_) ?_
        | with_reducible refine Need.mk (by with_reducible exact Nat.le_of_eq (Nat.zero_add _)) ?_
        | (fail_if_success with_reducible refine LoopVC.mk ?_
           fail_if_success with_reducible refine Need.mk ?_ ?_
           fail_if_success with_reducible refine CallVC.mk ?_
           fail_if_success with_reducible refine LoopEnd.mk ?_
           fail_if_success with_reducible refine Out.mk ?_
           fail_if_success with_reducible show False
           fail_if_success with_reducible refine NeedI.mk ?_ ?_
           conv => whnf)
      refine Need.mk (eI (by rw [Clk.whoR, if_neg hg])) ?_
      repeat' first
        | with_reducible refine NeedI.mk (fun h => h) ?_
        | with_reducible refine NeedI.mk (fun h => h.2) ?_
        | with_reducible refine NeedI.mk (fun h => h.1) ?_
        | with_reducible exact Done.mk
        | with_reducible refine Both.mk (fun _ => ?_) (fun _ => ?_)
        | with_reducible refine Both2.mk (fun _ => ?_) ?_
        | with_reducible refine Need.mk (by with_reducible exact Nat.le_of_eq (Nat.zero_add _)) ?_
        | (fail_if_success with_reducible refine LoopVC.mk ?_
           fail_if_success with_reducible refine Need.mk ?_ ?_
           fail_if_success with_reducible refine CallVC.mk ?_
           fail_if_success with_reducible refine LoopEnd.mk ?_
           fail_if_success with_reducible refine Out.mk ?_
           fail_if_success with_reducible show False
           fail_if_success with_reducible refine NeedI.mk ?_ ?_
           conv => whnf)
    · rename_i h2
      have h2 : c.k2 < c.n := by
        rcases Nat.lt_or_ge c.k2 c.n with h | h
        · exact h
        · rw [if_neg (by omega)] at h2; simp at h2
      have hg : c.goes := ⟨hr, h2⟩
      have hst : c.stop = c.n + c.k2 := by unfold Clk.stop; rw [if_neg h1]
      have hat : posK c.n c.h c.k2 = c.at' := by unfold Clk.at'; rw [hst, posK_add]
      have hpass : ∀ i, (true || decide (distK c.n c.h i < c.k2)) = decide (distK c.n c.h i < c.stop) := fun i => by
        have := distK_lt (h := c.h) (i := i) hn
        rw [decide_eq_true (show distK c.n c.h i < c.stop by omega)]; rfl
      rw [if_pos h2]
      have hpk := posK_lt (h := c.h) (k := c.k2) hn
      have hmod : (c.hand + (c.k2 : Int)) % (c.frames.length : Int) = (posK c.n c.h c.k2 : Int) := by
        rw [← hh]; unfold posK Clk.n; push_cast; rfl
      have hpos : 0 ≤ c.hand + (c.k2 : Int) ∧ 0 < (c.frames.length : Int) := by omega
      have hrg : rng .i64 (c.hand + (c.k2 : Int)) := by simp only [rng]; omega
      have hpos1 : 0 ≤ (c.hand + (c.k2 : Int)) % (c.frames.length : Int) + 1 ∧ 0 < (c.frames.length : Int) := by rw [hmod]; omega
      have hrg1 : rng .i64 ((c.hand + (c.k2 : Int)) % (c.frames.length : Int) + 1) := by rw [hmod]; simp only [rng]; omega
      repeat' first
        | with_reducible refine NeedI.mk (fun h => h) ?_
        | with_reducible refine NeedI.mk (fun h => h.2) ?_
        | with_reducible refine NeedI.mk (fun h => h.1) ?_
        | with_reducible exact Done.mk
        | with_reducible refine Both.mk (fun _ => ?_) (fun _ => ?_)
        | with_reducible refine Both2.mk (fun _ => ?_) ?_
        | with_reducible refine Need.mk (by with_reducible first | exact hrg | exact hpos | exact hrg1 | exact hpos1) ?_
        | (fail_if_success with_reducible refine LoopVC.mk ?_
           fail_if_success with_reducible refine Need.mk ?_ ?_
           fail_if_success with_reducible refine CallVC.mk ?_
           fail_if_success with_reducible refine LoopEnd.mk ?_
           fail_if_success with_reducible refine Out.mk ?_
           fail_if_success with_reducible show False
           fail_if_success with_reducible refine NeedI.mk ?_ ?_
           conv => whnf)
      refine LoopVC.inv (fun i : Nat => i ≤ c.n) (fun i => stL [(1, .va 1 0 0), (2, .va 2 0 0), (4, .c (.int .i64 c.n)), (5, .c (.int .i64 c.k2)), (6, .c (.bool true)), (7, .c (.int .i64 c.at')), (8, .va 8 0 0), (9, .c (.int .i64 i))]
          [(1, vE [.c (slL 3 frmE c.frames), .c (.int .i64 c.hand)]), (2, vE [.nil 3, .c (.int .i64 0)]), (8, vE [.os 70 0 3 0 i, .c (.int .i64 ((posK c.n c.h (c.stop + 1) : Nat) : Int))]),
           (70, ⟨3, i, .dat fun r j => frmE (((c.frK c.stop).take i).getD r default) j, false, true⟩)])
        (fun i => c.n - i) 0 (Nat.zero_le _) (Le.ofN [70] ⟨.inl ⟨rfl, rfl, rfl⟩, .inl ⟨rfl, rfl, rfl⟩, .inl rfl, .inl rfl, .inl (cB ?_), .inl (cI ?_), .inl ⟨rfl, rfl, rfl⟩, .inl rfl, trivial⟩
          ⟨.inr ⟨rfl, _, rfl, .of (SubE.var2 (CEq.refl _) rfl)⟩, .inr ⟨rfl, _, rfl, .of (SubE.var2 trivial rfl)⟩, .inr ⟨rfl, _, rfl, .var2 (.inr ⟨_, _, _, rfl, rfl, rfl⟩) (.inl (cI ?_))⟩, .inl ⟨rfl, rfl⟩, trivial⟩) ?_
      · rw [if_neg h1]; rfl
      · rw [hmod, hat]
      · show ((c.hand + (c.k2 : Int)) % (c.frames.length : Int) + 1) % (c.frames.length : Int) = _
        rw [hmod, hat, ← posK_succ]; push_cast; rfl
      rintro Q hQ i hi
      have hi64 : rng .i64 ((i : Int) - c.hand) := by simp only [rng]; omega
      have hi64' : rng .i64 ((i : Int) - c.hand + (c.n : Int)) := by simp only [rng]; omega
      have hdv : 0 ≤ (i : Int) - c.hand + (c.n : Int) ∧ 0 < (c.n : Int) := by omega
      have hdist : ((i : Int) - c.hand + (c.n : Int)) % (c.n : Int) = (distK c.n c.h i : Int) := by
        rw [← hh, show (i : Int) - (c.h : Int) + (c.n : Int) = ((i + c.n - c.h : Nat) : Int) by omega]; unfold distK; push_cast; rfl
      have hkey : ∀ b : Bool, (decide ((c.frames.getD (i : Int).toNat default).pins = 0) && (true || decide (((i : Int) - c.hand + (c.n : Int)) % (c.n : Int) < ((c.k2 : Nat) : Int)))) = b → (c.loose i && decide (distK c.n c.h i < c.stop)) = b := fun b hb => by
        rw [hdist, Int.toNat_natCast] at hb
        rw [← hpass i]
        simp only [Int.ofNat_lt] at hb
        exact hb
      repeat' first
        | with_reducible refine NeedI.mk (fun h => h) ?_
        | with_reducible refine NeedI.mk (fun h => h.2) ?_
        | with_reducible refine NeedI.mk (fun h => h.1) ?_
        | with_reducible exact Done.mk
        | with_reducible refine Both.mk (fun _ => ?_) (fun _ => ?_)
        | with_reducible refine Both2.mk (fun _ => ?_) ?_
        | with_reducible refine Need.mk (by first | with_reducible exact hi64 | with_reducible exact hi64' | with_reducible exact hdv | exact ⟨rfl, rfl⟩ | (simp only [decide_eq_true_eq, decide_eq_false_iff_not, rng] at *; omega)) ?_
        | (fail_if_success with_reducible refine LoopVC.mk ?_
           fail_if_success with_reducible refine Need.mk ?_ ?_
           fail_if_success with_reducible refine CallVC.mk ?_
           fail_if_success with_reducible refine LoopEnd.mk ?_
           fail_if_success with_reducible refine Out.mk ?_
           fail_if_success with_reducible show False
           fail_if_success with_reducible refine NeedI.mk ?_ ?_
           conv => whnf)
      · rename_i h3 h4
        have h4 := hkey _ h4
        simp only [decide_eq_true_eq] at h3
        have hilt : i < c.n := by omega
        refine LoopEnd.mk ⟨i + 1, by omega, by omega, Le.of ⟨⟨rfl, rfl, rfl⟩, ⟨rfl, rfl, rfl⟩, rfl, rfl, rfl, rfl, ⟨rfl, rfl, rfl⟩, cI (by simp), trivial⟩
          ⟨⟨_, rfl, SubE.var2 (CEq.refl _) rfl⟩, ⟨_, rfl, SubE.var2 trivial rfl⟩, ⟨_, rfl, SubE.var2 ⟨rfl, rfl, rfl, rfl, rfl⟩ rfl⟩, ⟨_, rfl, SubE.dat ?_⟩, trivial⟩⟩
        show ∀ r, r < i + 1 → ∀ j, j < 3 → _
        intro r hr j hj
        rw [take_snoc (by rw [frK_len]; exact hilt)]
        refine appC_list (by simp [frK_len]; omega) (fun r hr j hj => CEq.refl _) (fun j hj => ?_) r (by simp [frK_len]; omega) j hj
        rw [frK_get hilt]
        rcases (show j = 0 ∨ j = 1 ∨ j = 2 by omega) with rfl | rfl | rfl
        · exact CEq.refl _
        · exact CEq.refl _
        · exact eB (by simp only [h4]; simp)
      · rename_i h3 h4
        have h4 := hkey _ h4
        simp only [decide_eq_true_eq] at h3
        have hilt : i < c.n := by omega
        refine LoopEnd.mk ⟨i + 1, by omega, by omega, Le.of ⟨⟨rfl, rfl, rfl⟩, ⟨rfl, rfl, rfl⟩, rfl, rfl, rfl, rfl, ⟨rfl, rfl, rfl⟩, cI (by simp), trivial⟩
          ⟨⟨_, rfl, SubE.var2 (CEq.refl _) rfl⟩, ⟨_, rfl, SubE.var2 trivial rfl⟩, ⟨_, rfl, SubE.var2 ⟨rfl, rfl, rfl, rfl, rfl⟩ rfl⟩, ⟨_, rfl, SubE.dat ?_⟩, trivial⟩⟩
        show ∀ r, r < i + 1 → ∀ j, j < 3 → _
        intro r hr j hj
        rw [take_snoc (by rw [frK_len]; exact hilt)]
        refine appC_list (by simp [frK_len]; omega) (fun r hr j hj => CEq.refl _) (fun j hj => ?_) r (by simp [frK_len]; omega) j hj
        rw [frK_get hilt]
        rcases (show j = 0 ∨ j = 1 ∨ j = 2 by omega) with rfl | rfl | rfl
        · exact CEq.refl _
        · exact CEq.refl _
        · exact eB (by simp only [h4]; simp; rfl)
      · rename_i h3
        simp only [decide_eq_false_iff_not] at h3
        have hie : i = c.n := by omega
        subst hie
        refine Out.mk (hQ _ _ ?_)
        repeat' first
          | with_reducible refine NeedI.mk (fun h => h) ?_
          | with_reducible refine NeedI.mk (fun h => h.2) ?_
          | with_reducible refine NeedI.mk (fun h => h.1) ?_
          | with_reducible exact Done.mk
          | with_reducible refine Both.mk (fun _ => ?_) (fun _ => ?_)
          | with_reducible refine Both2.mk (fun _ => ?_) ?_
          | with_reducible refine Need.mk (by with_reducible exact Nat.le_of_eq (Nat.zero_add _)) ?_
          | (fail_if_success with_reducible refine LoopVC.mk ?_
             fail_if_success with_reducible refine Need.mk ?_ ?_
             fail_if_success with_reducible refine CallVC.mk ?_
             fail_if_success with_reducible refine LoopEnd.mk ?_
             fail_if_success with_reducible refine Out.mk ?_
             fail_if_success with_reducible show False
             fail_if_success with_reducible refine NeedI.mk ?_ ?_
             conv => whnf)
        refine Need.mk ?_ ?_
        · show CEq _ (clkE c.sw 0)
          rw [Clk.sw, if_pos hg]
          refine CEq.list (frK_len _).symm fun i _ j _ => ?_
          rw [List.take_of_length_le (by rw [frK_len]; exact Nat.le_refl _)]
          exact CEq.refl _
        repeat' first
          | with_reducible refine NeedI.mk (fun h => h) ?_
          | with_reducible refine NeedI.mk (fun h => h.2) ?_
          | with_reducible refine NeedI.mk (fun h => h.1) ?_
          | with_reducible exact Done.mk
          | with_reducible refine Both.mk (fun _ => ?_) (fun _ => ?_)
          | with_reducible refine Both2.mk (fun _ => ?_) ?_
          | with_reducible refine Need.mk (by with_reducible exact Nat.le_of_eq (Nat.zero_add _)) ?_
          | (fail_if_success with_reducible refine LoopVC.mk ?_
             fail_if_success with_reducible refine Need.mk ?_ ?_
             fail_if_success with_reducible refine CallVC.mk ?_
             fail_if_success with_reducible refine LoopEnd.mk ?_
             fail_if_success with_reducible refine Out.mk ?_
             fail_if_success with_reducible show False
             fail_if_success with_reducible refine NeedI.mk ?_ ?_
             conv => whnf)
        refine Need.mk ?_ ?_
        · show CEq _ (clkE c.sw 1)
          rw [Clk.sw, if_pos hg]
          exact CEq.refl _
        repeat' first
          | with_reducible refine NeedI.mk (fun h => h) ?_
          | with_reducible refine NeedI.mk (fun h => h.2) ?_
          | with_reducible refine NeedI.mk (fun h => h.1) ?_
          | with_reducible exact Done.mk
          | with_reducible refine Both.mk (fun _ => ?_) (fun _ => ?_)
          | with_reducible refine Both2.mk (fun _ => ?_) ?_
          | with_reducible refine Need.mk (by with_reducible exact Nat.le_of_eq (Nat.zero_add _)) ?_
          | (fail_if_success with_reducible refine LoopVC.mk ?_
             fail_if_success with_reducible refine Need.mk ?_ ?_
             fail_if_success with_reducible refine CallVC.mk ?_
             fail_if_success with_reducible refine LoopEnd.mk ?_
             fail_if_success with_reducible refine Out.mk ?_
             fail_if_success with_reducible show False
             fail_if_success with_reducible refine NeedI.mk ?_ ?_
             conv => whnf)
        refine Need.mk (eI (by rw [Clk.whoR, if_pos hg])) ?_
        repeat' first
          | with_reducible refine NeedI.mk (fun h => h) ?_
          | with_reducible refine NeedI.mk (fun h => h.2) ?_
          | with_reducible refine NeedI.mk (fun h => h.1) ?_
          | with_reducible exact Done.mk
          | with_reducible refine Both.mk (fun _ => ?_) (fun _ => ?_)
          | with_reducible refine Both2.mk (fun _ => ?_) ?_
          | with_reducible refine Need.mk (by with_reducible exact Nat.le_of_eq (Nat.zero_add _)) ?_
          | (fail_if_success with_reducible refine LoopVC.mk ?_
             fail_if_success with_reducible refine Need.mk ?_ ?_
             fail_if_success with_reducible refine CallVC.mk ?_
             fail_if_success with_reducible refine LoopEnd.mk ?_
             fail_if_success with_reducible refine Out.mk ?_
             fail_if_success with_reducible show False
             fail_if_success with_reducible refine NeedI.mk ?_ ?_
             conv => whnf)
  · rename_i h1
    rename_i h2; rw [h1] at h2; cases h2
  · rename_i h1 _
    have h1 : c.k1 < c.n := by
      rcases Nat.lt_or_ge c.k1 c.n with h | h
      · exact h
      · rw [if_neg (by omega)] at h1; simp at h1
    have h2 : c.any := by
      unfold Clk.any Clk.k2
      rw [fstN_lt_iff]
      unfold Clk.k1 at h1
      obtain ⟨j, hj, hp⟩ := fstN_lt_iff.1 h1
      exact ⟨j, hj, by simp only [Bool.and_eq_true] at hp; exact hp.1⟩
    have hg : c.goes := ⟨hr, h2⟩
    have hst : c.stop = c.k1 := by unfold Clk.stop; rw [if_pos h1]
    have hat : posK c.n c.h c.k1 = c.at' := by unfold Clk.at'; rw [hst]
    have hpass : ∀ i, (false || decide (distK c.n c.h i < c.k1)) = decide (distK c.n c.h i < c.stop) := fun i => by rw [hst]; rfl
    rw [if_pos h1]
    have hpk := posK_lt (h := c.h) (k := c.k1) hn
    have hmod : (c.hand + (c.k1 : Int)) % (c.frames.length : Int) = (posK c.n c.h c.k1 : Int) := by
      rw [← hh]; unfold posK Clk.n; push_cast; rfl
    have hpos : 0 ≤ c.hand + (c.k1 : Int) ∧ 0 < (c.frames.length : Int) := by omega
    have hrg : rng .i64 (c.hand + (c.k1 : Int)) := by simp only [rng]; omega
    have hpos1 : 0 ≤ (c.hand + (c.k1 : Int)) % (c.frames.length : Int) + 1 ∧ 0 < (c.frames.length : Int) := by rw [hmod]; omega
    have hrg1 : rng .i64 ((c.hand + (c.k1 : Int)) % (c.frames.length : Int) + 1) := by rw [hmod]; simp only [rng]; omega
    repeat' first
      | with_reducible refine NeedI.mk (fun h => h) ?_
      | with_reducible refine NeedI.mk (fun h => h.2) ?_
      | with_reducible refine NeedI.mk (fun h => h.1) ?_
      | with_reducible exact Done.mk
      | with_reducible refine Both.mk (fun _ => ?_) (fun _ => ?_)
      | with_reducible refine Both2.mk (fun _ => ?_) ?_
      | with_reducible refine Need.mk (by with_reducible first | exact hrg | exact hpos | exact hrg1 | exact hpos1) ?_
      | (fail_if_success with_reducible refine LoopVC.mk ?_
         fail_if_success with_reducible refine Need.mk ?_ ?_
         fail_if_success with_reducible refine CallVC.mk ?_
         fail_if_success with_reducible refine LoopEnd.mk ?_
         fail_if_success with_reducible refine Out.mk ?_
         fail_if_success with_reducible show False
         fail_if_success with_reducible refine NeedI.mk ?_ ?_
         conv => whnf)
    refine LoopVC.inv (fun i : Nat => i ≤ c.n) (fun i => stL [(1, .va 1 0 0), (2, .va 2 0 0), (4, .c (.int .i64 c.n)), (5, .c (.int .i64 c.k1)), (6, .c (.bool false)), (7, .c (.int .i64 c.at')), (8, .va 8 0 0), (9, .c (.int .i64 i))]
        [(1, vE [.c (slL 3 frmE c.frames), .c (.int .i64 c.hand)]), (2, vE [.nil 3, .c (.int .i64 0)]), (8, vE [.os 70 0 3 0 i, .c (.int .i64 ((posK c.n c.h (c.stop + 1) : Nat) : Int))]),
         (70, ⟨3, i, .dat fun r j => frmE (((c.frK c.stop).take i).getD r default) j, false, true⟩)])
      (fun i => c.n - i) 0 (Nat.zero_le _) (Le.ofN [70] ⟨.inl ⟨rfl, rfl, rfl⟩, .inl ⟨rfl, rfl, rfl⟩, .inl rfl, .inl rfl, .inl (cB ?_), .inl (cI ?_), .inl ⟨rfl, rfl, rfl⟩, .inl rfl, trivial⟩
        ⟨.inr ⟨rfl, _, rfl, .of (SubE.var2 (CEq.refl _) rfl)⟩, .inr ⟨rfl, _, rfl, .of (SubE.var2 trivial rfl)⟩, .inr ⟨rfl, _, rfl, .var2 (.inr ⟨_, _, _, rfl, rfl, rfl⟩) (.inl (cI ?_))⟩, .inl ⟨rfl, rfl⟩, trivial⟩) ?_
    · simp
    · rw [hmod, hat]
    · show ((c.hand + (c.k1 : Int)) % (c.frames.length : Int) + 1) % (c.frames.length : Int) = _
      rw [hmod, hat, ← posK_succ]; push_cast; rfl
    rintro Q hQ i hi
    have hi64 : rng .i64 ((i : Int) - c.hand) := by simp only [rng]; omega
    have hi64' : rng .i64 ((i : Int) - c.hand + (c.n : Int)) := by simp only [rng]; omega
    have hdv : 0 ≤ (i : Int) - c.hand + (c.n : Int) ∧ 0 < (c.n : Int) := by omega
    have hdist : ((i : Int) - c.hand + (c.n : Int)) % (c.n : Int) = (distK c.n c.h i : Int) := by
      rw [← hh, show (i : Int) - (c.h : Int) + (c.n : Int) = ((i + c.n - c.h : Nat) : Int) by omega]; unfold distK; push_cast; rfl
    have hkey : ∀ b : Bool, (decide ((c.frames.getD (i : Int).toNat default).pins = 0) && (false || decide (((i : Int) - c.hand + (c.n : Int)) % (c.n : Int) < ((c.k1 : Nat) : Int)))) = b → (c.loose i && decide (distK c.n c.h i < c.stop)) = b := fun b hb => by
      rw [hdist, Int.toNat_natCast] at hb
      rw [← hpass i]
      simp only [Int.ofNat_lt] at hb
      exact hb
    repeat' first
      | with_reducible refine NeedI.mk (fun h => h) ?_
      | with_reducible refine NeedI.mk (fun h => h.2) ?_
      | with_reducible refine NeedI.mk (fun h => h.1) ?_
      | with_reducible exact Done.mk
      | with_reducible refine Both.mk (fun _ => ?_) (fun _ => ?_)
      | with_reducible refine Both2.mk (fun _ => ?_) ?_
      | with_reducible refine Need.mk (by first | with_reducible exact hi64 | with_reducible exact hi64' | with_reducible exact hdv | exact ⟨rfl, rfl⟩ | (simp only [decide_eq_true_eq, decide_eq_false_iff_not, rng] at *; omega)) ?_
      | (fail_if_success with_reducible refine LoopVC.mk ?_
         fail_if_success with_reducible refine Need.mk ?_ ?_
         fail_if_success with_reducible refine CallVC.mk ?_
         fail_if_success with_reducible refine LoopEnd.mk ?_
         fail_if_success with_reducible refine Out.mk ?_
         fail_if_success with_reducible show False
         fail_if_success with_reducible refine NeedI.mk ?_ ?_
         conv => whnf)
    · rename_i h3 h4
      have h4 := hkey _ h4
      simp only [decide_eq_true_eq] at h3
      have hilt : i < c.n := by omega
      refine LoopEnd.mk ⟨i + 1, by omega, by omega, Le.of ⟨⟨rfl, rfl, rfl⟩, ⟨rfl, rfl, rfl⟩, rfl, rfl, rfl, rfl, ⟨rfl, rfl, rfl⟩, cI (by simp), trivial⟩
        ⟨⟨_, rfl, SubE.var2 (CEq.refl _) rfl⟩, ⟨_, rfl, SubE.var2 trivial rfl⟩, ⟨_, rfl, SubE.var2 ⟨rfl, rfl, rfl, rfl, rfl⟩ rfl⟩, ⟨_, rfl, SubE.dat ?_⟩, trivial⟩⟩
      show ∀ r, r < i + 1 → ∀ j, j < 3 → _
      intro r hr j hj
      rw [take_snoc (by rw [frK_len]; exact hilt)]
      refine appC_list (by simp [frK_len]; omega) (fun r hr j hj => CEq.refl _) (fun j hj => ?_) r (by simp [frK_len]; omega) j hj
      rw [frK_get hilt]
      rcases (show j = 0 ∨ j = 1 ∨ j = 2 by omega) with rfl | rfl | rfl
      · exact CEq.refl _
      · exact CEq.refl _
      · exact eB (by simp only [h4]; simp)
    · rename_i h3 h4
      have h4 := hkey _ h4
      simp only [decide_eq_true_eq] at h3
      have hilt : i < c.n := by omega
      refine LoopEnd.mk ⟨i + 1, by omega, by omega, Le.of ⟨⟨rfl, rfl, rfl⟩, ⟨rfl, rfl, rfl⟩, rfl, rfl, rfl, rfl, ⟨rfl, rfl, rfl⟩, cI (by simp), trivial⟩
        ⟨⟨_, rfl, SubE.var2 (CEq.refl _) rfl⟩, ⟨_, rfl, SubE.var2 trivial rfl⟩, ⟨_, rfl, SubE.var2 ⟨rfl, rfl, rfl, rfl, rfl⟩ rfl⟩, ⟨_, rfl, SubE.dat ?_⟩, trivial⟩⟩
      show ∀ r, r < i + 1 → ∀ j, j < 3 → _
      intro r hr j hj
      rw [take_snoc (by rw [frK_len]; exact hilt)]
      refine appC_list (by simp [frK_len]; omega) (fun r hr j hj => CEq.refl _) (fun j hj => ?_) r (by simp [frK_len]; omega) j hj
      rw [frK_get hilt]
      rcases (show j = 0 ∨ j = 1 ∨ j = 2 by omega) with rfl | rfl | rfl
      · exact CEq.refl _
      · exact CEq.refl _
      · exact eB (by simp only [h4]; simp; rfl)
    · rename_i h3
      simp only [decide_eq_false_iff_not] at h3
      have hie : i = c.n := by omega
      subst hie
      refine Out.mk (hQ _ _ ?_)
      repeat' first
        | with_reducible refine NeedI.mk (fun h => h) ?_
        | with_reducible refine NeedI.mk (fun h => h.2) ?_
        | with_reducible refine NeedI.mk (fun h => h.1) ?_
        | with_reducible exact Done.mk
        | with_reducible refine Both.mk (fun _ => ?_) (fun _ => ?_)
        | with_reducible refine Both2.mk (fun _ => ?_) ?_
        | with_reducible refine Need.mk (by with_reducible exact Nat.le_of_eq (Nat.zero_add _)) ?_
        | (fail_if_success with_reducible refine LoopVC.mk ?_
           fail_if_success with_reducible refine Need.mk ?_ ?_
           fail_if_success with_reducible refine CallVC.mk ?_
           fail_if_success with_reducible refine LoopEnd.mk ?_
           fail_if_success with_reducible refine Out.mk ?_
           fail_if_success with_reducible show False
           fail_if_success with_reducible refine NeedI.mk ?_ ?_
           conv => whnf)
      refine Need.mk ?_ ?_
      · show CEq _ (clkE c.sw 0)
        rw [Clk.sw, if_pos hg]
        refine CEq.list (frK_len _).symm fun i _ j _ => ?_
        rw [List.take_of_length_le (by rw [frK_len]; exact Nat.le_refl _)]
        exact CEq.refl _
      repeat' first
        | with_reducible refine NeedI.mk (fun h => h) ?_
        | with_reducible refine NeedI.mk (fun h => h.2) ?_
        | with_reducible refine NeedI.mk (fun h => h.1) ?_
        | with_reducible exact Done.mk
        | with_reducible refine Both.mk (fun _ => ?_) (fun _ => ?_)
        | with_reducible refine Both2.mk (fun _ => ?_) ?_
        | with_reducible refine Need.mk (by with_reducible exact Nat.le_of_eq (Nat.zero_add _)) ?_
        | (fail_if_success with_reducible refine LoopVC.mk ?_
           fail_if_success with_reducible refine Need.mk ?_ ?_
           fail_if_success with_reducible refine CallVC.mk ?_
           fail_if_success with_reducible refine LoopEnd.mk ?_
           fail_if_success with_reducible refine Out.mk ?_
           fail_if_success with_reducible show False
           fail_if_success with_reducible refine NeedI.mk ?_ ?_
           conv => whnf)
      refine Need.mk ?_ ?_
      · show CEq _ (clkE c.sw 1)
        rw [Clk.sw, if_pos hg]
        exact CEq.refl _
      repeat' first
        | with_reducible refine NeedI.mk (fun h => h) ?_
        | with_reducible refine NeedI.mk (fun h => h.2) ?_
        | with_reducible refine NeedI.mk (fun h => h.1) ?_
        | with_reducible exact Done.mk
        | with_reducible refine Both.mk (fun _ => ?_) (fun _ => ?_)
        | with_reducible refine Both2.mk (fun _ => ?_) ?_
        | with_reducible refine Need.mk (by with_reducible exact Nat.le_of_eq (Nat.zero_add _)) ?_
        | (fail_if_success with_reducible refine LoopVC.mk ?_
           fail_if_success with_reducible refine Need.mk ?_ ?_
           fail_if_success with_reducible refine CallVC.mk ?_
           fail_if_success with_reducible refine LoopEnd.mk ?_
           fail_if_success with_reducible refine Out.mk ?_
           fail_if_success with_reducible show False
           fail_if_success with_reducible refine NeedI.mk ?_ ?_
           conv => whnf)
      refine Need.mk (eI (by rw [Clk.whoR, if_pos hg])) ?_
      repeat' first
        | with_reducible refine NeedI.mk (fun h => h) ?_
        | with_reducible refine NeedI.mk (fun h => h.2) ?_
        | with_reducible refine NeedI.mk (fun h => h.1) ?_
        | with_reducible exact Done.mk
        | with_reducible refine Both.mk (fun _ => ?_) (fun _ => ?_)
        | with_reducible refine Both2.mk (fun _ => ?_) ?_
        | with_reducible refine Need.mk (by with_reducible exact Nat.le_of_eq (Nat.zero_add _)) ?_
        | (fail_if_success with_reducible refine LoopVC.mk ?_
           fail_if_success with_reducible refine Need.mk ?_ ?_
           fail_if_success with_reducible refine CallVC.mk ?_
           fail_if_success with_reducible refine LoopEnd.mk ?_
           fail_if_success with_reducible refine Out.mk ?_
           fail_if_success with_reducible show False
           fail_if_success with_reducible refine NeedI.mk ?_ ?_
           conv => whnf)
end
end Lk.S09
