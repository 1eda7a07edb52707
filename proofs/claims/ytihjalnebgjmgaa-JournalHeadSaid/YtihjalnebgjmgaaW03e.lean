/-
  Chapter 3: the reference's Small, Right, Same, in, Read.
-/
import Derived.Test.YtihjalnebgjmgaaW03d
namespace Lk.S03
open Go Lk Lk.C

def tiny (d : Dsk) : Prop := d.secs.length ≤ 80 ∧ d.cache.length ≤ 220 ∧ (∀ s ∈ d.secs, s.length ≤ 40) ∧ ∀ w ∈ d.cache, w.data.length ≤ 40
instance (d : Dsk) : Decidable (tiny d) := by unfold tiny; infer_instance
theorem tiny.small {d : Dsk} (h : tiny d) : Small d :=
  ⟨by have := h.1; omega, by have := h.2.1; omega, fun s hs => by have := h.2.2.1 s hs; omega, fun w hw => by have := h.2.2.2 w hw; omega⟩

section
variable {P : Program} {F : Nat → Nat}

structure KRef (P : Program) (F : Nat → Nat) : Prop where
  m : P.follows .mixedOrders = true
  small : ref03_Small_k P F
  right : ref03_Right_k P F
  same : ref03_Same_k P F
  read : ref03_Read_k P F
  sync : ref03_Sync_k P F

/-- What a crash by the reference needs besides. -/
structure KRefC (P : Program) (F : Nat → Nat) : Prop where
  m : P.follows .mixedOrders = true
  in_ : ref03_in_k P F
  crash : ref03_Crash_k P F

set_option maxHeartbeats 8000000 in
set_option maxRecDepth 100000 in
theorem small_ok (K : KRef P F) (d : Dsk) (W : EDsk.wf d) : FnOk P (F 31) [.many 2 (dskE d)] [.one (.im (.bool (decide (tiny d))))] := by
  refine fnOk K.m K.small ?_
  have hs : d.secs.length ≤ 9223372036854775807 := W.1
  have hc : d.cache.length ≤ 9223372036854775807 := W.2.1
  repeat' first
    | with_reducible refine NeedI.mk (fun h => h) ?_
    | with_reducible refine NeedI.mk (fun h => h.2) ?_
    | with_reducible refine NeedI.mk (fun h => h.1) ?_
    | with_reducible exact Done.mk
    | with_reducible refine Both.mk (fun _ => ?_) (fun _ => ?_)
    | with_reducible refine Both2.mk (fun _ => ?_) ?_
    | with_reducible refine Need.mk (by first | omega | with_reducible exact CEq.refl _) ?_
    | (fail_if_success with_reducible refine LoopVC.mk ?_
       fail_if_success with_reducible refine Need.mk ?_ ?_
       fail_if_success with_reducible refine CallVC.mk ?_
       fail_if_success with_reducible refine LoopEnd.mk ?_
       fail_if_success with_reducible refine Out.mk ?_
       fail_if_success with_reducible show False
       fail_if_success with_reducible refine NeedI.mk ?_ ?_
       conv => whnf)
  · rename_i h
    simp only [Bool.or_eq_true, decide_eq_true_eq] at h
    refine Need.mk (eB ?_) ?_
    · symm; rw [decide_eq_false_iff_not]; unfold tiny; omega
    · repeat' first
        | with_reducible refine NeedI.mk (fun h => h) ?_
        | with_reducible refine NeedI.mk (fun h => h.2) ?_
        | with_reducible refine NeedI.mk (fun h => h.1) ?_
        | with_reducible exact Done.mk
        | with_reducible refine Both.mk (fun _ => ?_) (fun _ => ?_)
        | with_reducible refine Both2.mk (fun _ => ?_) ?_
        | with_reducible refine Need.mk (by with_reducible exact CEq.refl _) ?_
        | (fail_if_success with_reducible refine LoopVC.mk ?_
           fail_if_success with_reducible refine Need.mk ?_ ?_
           fail_if_success with_reducible refine CallVC.mk ?_
           fail_if_success with_reducible refine LoopEnd.mk ?_
           fail_if_success with_reducible refine Out.mk ?_
           fail_if_success with_reducible show False
           fail_if_success with_reducible refine NeedI.mk ?_ ?_
           conv => whnf)
  · rename_i h1
    simp only [Bool.or_eq_false_iff, decide_eq_false_iff_not] at h1
    refine LoopVC.inv (fun i : Nat => i ≤ d.secs.length ∧ ∀ k, k < i → (d.secs.getD k default).length ≤ 40) (fun i => stL [(1, .va 1 0 0), (3, .c (.int .i64 i))] [(1, vE [.c (slL 1 strE d.secs), .c (slL 2 wrE d.cache)])])
      (fun i => d.secs.length - i) 0 ⟨Nat.zero_le _, fun k hk => by omega⟩ (Le.of ⟨⟨rfl, rfl, rfl⟩, rfl, trivial⟩ ⟨⟨_, rfl, SubE.var2 (CEq.refl _) (CEq.refl _)⟩, trivial⟩) ?_
    rintro Q hQ i ⟨hi, hi2⟩
    have hle : ¬ i < d.secs.length ∨ (d.secs.getD i default).length ≤ 9223372036854775807 := by
      by_cases h : i < d.secs.length
      · exact .inr (W.2.2.1 _ (getD_mem h))
      · exact .inl h
    repeat' first
      | with_reducible refine NeedI.mk (fun h => h) ?_
      | with_reducible refine NeedI.mk (fun h => h.2) ?_
      | with_reducible refine NeedI.mk (fun h => h.1) ?_
      | with_reducible exact Done.mk
      | with_reducible refine Both.mk (fun _ => ?_) (fun _ => ?_)
      | with_reducible refine Both2.mk (fun _ => ?_) ?_
      | with_reducible refine Need.mk (by first | with_reducible exact CEq.refl _ | omega | (simp only [decide_eq_true_eq, decide_eq_false_iff_not, Bool.or_eq_true, Bool.and_eq_true, Bool.or_eq_false_iff, Int.toNat_natCast, addN_eq, cond_false, cond_true, rng] at *; omega)) ?_
      | (fail_if_success with_reducible refine LoopVC.mk ?_
         fail_if_success with_reducible refine Need.mk ?_ ?_
         fail_if_success with_reducible refine CallVC.mk ?_
         fail_if_success with_reducible refine LoopEnd.mk ?_
         fail_if_success with_reducible refine Out.mk ?_
         fail_if_success with_reducible show False
         fail_if_success with_reducible refine NeedI.mk ?_ ?_
         conv => whnf)
    · rename_i h3 h4
      simp only [decide_eq_true_eq, Int.toNat_natCast, addN_eq, Nat.zero_add] at h3 h4
      refine Out.mk (hQ _ _ ?_)
      repeat' first
        | with_reducible refine NeedI.mk (fun h => h) ?_
        | with_reducible refine NeedI.mk (fun h => h.2) ?_
        | with_reducible refine NeedI.mk (fun h => h.1) ?_
        | with_reducible exact Done.mk
        | with_reducible refine Both.mk (fun _ => ?_) (fun _ => ?_)
        | with_reducible refine Both2.mk (fun _ => ?_) ?_
        | with_reducible refine Need.mk (by with_reducible exact Nat.le_of_eq (Nat.zero_add _)) ?_
        | (fail_if_success with_reducible refine LoopVC.mk ?_
           fail_if_success with_reducible refine Need.mk ?_ ?_
           fail_if_success with_reducible refine CallVC.mk ?_
           fail_if_success with_reducible refine LoopEnd.mk ?_
           fail_if_success with_reducible refine Out.mk ?_
           fail_if_success with_reducible show False
           fail_if_success with_reducible refine NeedI.mk ?_ ?_
           conv => whnf)
      refine Need.mk (eB ?_) ?_
      · symm; rw [decide_eq_false_iff_not]
        intro hr
        have h5 := hr.2.2.1 _ (getD_mem (show i < d.secs.length by omega))
        omega
      · repeat' first
          | with_reducible refine NeedI.mk (fun h => h) ?_
          | with_reducible refine NeedI.mk (fun h => h.2) ?_
          | with_reducible refine NeedI.mk (fun h => h.1) ?_
          | with_reducible exact Done.mk
          | with_reducible refine Both.mk (fun _ => ?_) (fun _ => ?_)
          | with_reducible refine Both2.mk (fun _ => ?_) ?_
          | with_reducible refine Need.mk (by with_reducible exact CEq.refl _) ?_
          | (fail_if_success with_reducible refine LoopVC.mk ?_
             fail_if_success with_reducible refine Need.mk ?_ ?_
             fail_if_success with_reducible refine CallVC.mk ?_
             fail_if_success with_reducible refine LoopEnd.mk ?_
             fail_if_success with_reducible refine Out.mk ?_
             fail_if_success with_reducible show False
             fail_if_success with_reducible refine NeedI.mk ?_ ?_
             conv => whnf)
    · rename_i h3 h4
      simp only [decide_eq_true_eq, decide_eq_false_iff_not, Int.toNat_natCast, addN_eq, Nat.zero_add] at h3 h4
      refine LoopEnd.mk ⟨i + 1, ⟨by omega, fun k hk => ?_⟩, by omega, Le.of ⟨⟨rfl, rfl, rfl⟩, cI (by simp), trivial⟩ ⟨⟨_, rfl, SubE.var2 (CEq.refl _) (CEq.refl _)⟩, trivial⟩⟩
      rcases Nat.lt_or_ge k i with h | h
      · exact hi2 k h
      · obtain rfl : k = i := by omega
        omega
    · rename_i h3
      simp only [decide_eq_false_iff_not] at h3
      refine Out.mk (hQ _ _ ?_)
      have hsec : ∀ s ∈ d.secs, s.length ≤ 40 := by
        obtain rfl : i = d.secs.length := by omega
        exact all_of_getD hi2
      repeat' first
        | with_reducible refine NeedI.mk (fun h => h) ?_
        | with_reducible refine NeedI.mk (fun h => h.2) ?_
        | with_reducible refine NeedI.mk (fun h => h.1) ?_
        | with_reducible exact Done.mk
        | with_reducible refine Both.mk (fun _ => ?_) (fun _ => ?_)
        | with_reducible refine Both2.mk (fun _ => ?_) ?_
        | with_reducible refine Need.mk (by first | with_reducible exact CEq.refl _ | omega | (simp only [decide_eq_true_eq, decide_eq_false_iff_not, Bool.or_eq_true, Bool.and_eq_true, Bool.or_eq_false_iff, Int.toNat_natCast, addN_eq, cond_false, cond_true, rng] at *; omega)) ?_
        | (fail_if_success with_reducible refine LoopVC.mk ?_
           fail_if_success with_reducible refine Need.mk ?_ ?_
           fail_if_success with_reducible refine CallVC.mk ?_
           fail_if_success with_reducible refine LoopEnd.mk ?_
           fail_if_success with_reducible refine Out.mk ?_
           fail_if_success with_reducible show False
           fail_if_success with_reducible refine NeedI.mk ?_ ?_
           conv => whnf)
      refine LoopVC.inv (fun i : Nat => i ≤ d.cache.length ∧ ∀ k, k < i → (d.cache.getD k default).data.length ≤ 40) (fun i => stL [(1, .va 1 0 0), (4, .c (.int .i64 i))] [(1, vE [.c (slL 1 strE d.secs), .c (slL 2 wrE d.cache)])])
        (fun i => d.cache.length - i) 0 ⟨Nat.zero_le _, fun k hk => by omega⟩ (Le.of ⟨⟨rfl, rfl, rfl⟩, rfl, trivial⟩ ⟨⟨_, rfl, SubE.var2 (CEq.refl _) (CEq.refl _)⟩, trivial⟩) ?_
      rintro Q2 hQ2 k ⟨hk, hk2⟩
      have hle2 : ¬ k < d.cache.length ∨ (d.cache.getD k default).data.length ≤ 9223372036854775807 := by
        by_cases h : k < d.cache.length
        · exact .inr (W.2.2.2 _ (getD_mem h))
        · exact .inl h
      repeat' first
        | with_reducible refine NeedI.mk (fun h => h) ?_
        | with_reducible refine NeedI.mk (fun h => h.2) ?_
        | with_reducible refine NeedI.mk (fun h => h.1) ?_
        | with_reducible exact Done.mk
        | with_reducible refine Both.mk (fun _ => ?_) (fun _ => ?_)
        | with_reducible refine Both2.mk (fun _ => ?_) ?_
        | with_reducible refine Need.mk (by first | with_reducible exact CEq.refl _ | omega | (simp only [decide_eq_true_eq, decide_eq_false_iff_not, Bool.or_eq_true, Bool.and_eq_true, Bool.or_eq_false_iff, Int.toNat_natCast, addN_eq, cond_false, cond_true, rng] at *; omega)) ?_
        | (fail_if_success with_reducible refine LoopVC.mk ?_
           fail_if_success with_reducible refine Need.mk ?_ ?_
           fail_if_success with_reducible refine CallVC.mk ?_
           fail_if_success with_reducible refine LoopEnd.mk ?_
           fail_if_success with_reducible refine Out.mk ?_
           fail_if_success with_reducible show False
           fail_if_success with_reducible refine NeedI.mk ?_ ?_
           conv => whnf)
      · rename_i h4 h5
        simp only [decide_eq_true_eq, Int.toNat_natCast, addN_eq, Nat.zero_add] at h4 h5
        refine Out.mk (hQ2 _ _ ?_)
        repeat' first
          | with_reducible refine NeedI.mk (fun h => h) ?_
          | with_reducible refine NeedI.mk (fun h => h.2) ?_
          | with_reducible refine NeedI.mk (fun h => h.1) ?_
          | with_reducible exact Done.mk
          | with_reducible refine Both.mk (fun _ => ?_) (fun _ => ?_)
          | with_reducible refine Both2.mk (fun _ => ?_) ?_
          | with_reducible refine Need.mk (by with_reducible exact Nat.le_of_eq (Nat.zero_add _)) ?_
          | (fail_if_success with_reducible refine LoopVC.mk ?_
             fail_if_success with_reducible refine Need.mk ?_ ?_
             fail_if_success with_reducible refine CallVC.mk ?_
             fail_if_success with_reducible refine LoopEnd.mk ?_
             fail_if_success with_reducible refine Out.mk ?_
             fail_if_success with_reducible show False
             fail_if_success with_reducible refine NeedI.mk ?_ ?_
             conv => whnf)
        refine Need.mk (eB ?_) ?_
        · symm; rw [decide_eq_false_iff_not]
          intro hr
          have h6 := hr.2.2.2 _ (getD_mem (show k < d.cache.length by omega))
          omega
        · repeat' first
            | with_reducible refine NeedI.mk (fun h => h) ?_
            | with_reducible refine NeedI.mk (fun h => h.2) ?_
            | with_reducible refine NeedI.mk (fun h => h.1) ?_
            | with_reducible exact Done.mk
            | with_reducible refine Both.mk (fun _ => ?_) (fun _ => ?_)
            | with_reducible refine Both2.mk (fun _ => ?_) ?_
            | with_reducible refine Need.mk (by with_reducible exact CEq.refl _) ?_
            | (fail_if_success with_reducible refine LoopVC.mk ?_
               fail_if_success with_reducible refine Need.mk ?_ ?_
               fail_if_success with_reducible refine CallVC.mk ?_
               fail_if_success with_reducible refine LoopEnd.mk ?_
               fail_if_success with_reducible refine Out.mk ?_
               fail_if_success with_reducible show False
               fail_if_success with_reducible refine NeedI.mk ?_ ?_
               conv => whnf)
      · rename_i h4 h5
        simp only [decide_eq_true_eq, decide_eq_false_iff_not, Int.toNat_natCast, addN_eq, Nat.zero_add] at h4 h5
        refine LoopEnd.mk ⟨k + 1, ⟨by omega, fun m hm => ?_⟩, by omega, Le.of ⟨⟨rfl, rfl, rfl⟩, cI (by simp), trivial⟩ ⟨⟨_, rfl, SubE.var2 (CEq.refl _) (CEq.refl _)⟩, trivial⟩⟩
        rcases Nat.lt_or_ge m k with h | h
        · exact hk2 m h
        · obtain rfl : m = k := by omega
          omega
      · rename_i h4
        simp only [decide_eq_false_iff_not] at h4
        refine Out.mk (hQ2 _ _ ?_)
        repeat' first
          | with_reducible refine NeedI.mk (fun h => h) ?_
          | with_reducible refine NeedI.mk (fun h => h.2) ?_
          | with_reducible refine NeedI.mk (fun h => h.1) ?_
          | with_reducible exact Done.mk
          | with_reducible refine Both.mk (fun _ => ?_) (fun _ => ?_)
          | with_reducible refine Both2.mk (fun _ => ?_) ?_
          | with_reducible refine Need.mk (by with_reducible exact Nat.le_of_eq (Nat.zero_add _)) ?_
          | (fail_if_success with_reducible refine LoopVC.mk ?_
             fail_if_success with_reducible refine Need.mk ?_ ?_
             fail_if_success with_reducible refine CallVC.mk ?_
             fail_if_success with_reducible refine LoopEnd.mk ?_
             fail_if_success with_reducible refine Out.mk ?_
             fail_if_success with_reducible show False
             fail_if_success with_reducible refine NeedI.mk ?_ ?_
             conv => whnf)
        refine Need.mk (eB ?_) ?_
        · symm; rw [decide_eq_true_eq]
          obtain rfl : k = d.cache.length := by omega
          exact ⟨by omega, by omega, hsec, all_of_getD hk2⟩
        · repeat' first
            | with_reducible refine NeedI.mk (fun h => h) ?_
            | with_reducible refine NeedI.mk (fun h => h.2) ?_
            | with_reducible refine NeedI.mk (fun h => h.1) ?_
            | with_reducible exact Done.mk
            | with_reducible refine Both.mk (fun _ => ?_) (fun _ => ?_)
            | with_reducible refine Both2.mk (fun _ => ?_) ?_
            | with_reducible refine Need.mk (by with_reducible exact CEq.refl _) ?_
            | (fail_if_success with_reducible refine LoopVC.mk ?_
               fail_if_success with_reducible refine Need.mk ?_ ?_
               fail_if_success with_reducible refine CallVC.mk ?_
               fail_if_success with_reducible refine LoopEnd.mk ?_
               fail_if_success with_reducible refine Out.mk ?_
               fail_if_success with_reducible show False
               fail_if_success with_reducible refine NeedI.mk ?_ ?_
               conv => whnf)

set_option maxHeartbeats 8000000 in
set_option maxRecDepth 100000 in
theorem rright_ok (K : KRef P F) (d : Dsk) (W : EDsk.wf d) : FnOk P (F 32) [.many 2 (dskE d)] [.one (.im (.bool (decide (right d))))] := by
  refine fnOk K.m K.right ?_
  have hs : d.secs.length ≤ 9223372036854775807 := W.1
  have hc : d.cache.length ≤ 9223372036854775807 := W.2.1
  repeat' first
    | with_reducible refine NeedI.mk (fun h => h) ?_
    | with_reducible refine NeedI.mk (fun h => h.2) ?_
    | with_reducible refine NeedI.mk (fun h => h.1) ?_
    | with_reducible exact Done.mk
    | with_reducible refine Both.mk (fun _ => ?_) (fun _ => ?_)
    | with_reducible refine Both2.mk (fun _ => ?_) ?_
    | with_reducible refine Need.mk (by first | omega | with_reducible exact CEq.refl _) ?_
    | (fail_if_success with_reducible refine LoopVC.mk ?_
       fail_if_success with_reducible refine Need.mk ?_ ?_
       fail_if_success with_reducible refine CallVC.mk ?_
       fail_if_success with_reducible refine LoopEnd.mk ?_
       fail_if_success with_reducible refine Out.mk ?_
       fail_if_success with_reducible show False
       fail_if_success with_reducible refine NeedI.mk ?_ ?_
       conv => whnf)
  · rename_i h
    simp only [Bool.or_eq_true, decide_eq_true_eq] at h
    refine Need.mk (eB ?_) ?_
    · symm; rw [decide_eq_false_iff_not]; unfold right; omega
    · repeat' first
        | with_reducible refine NeedI.mk (fun h => h) ?_
        | with_reducible refine NeedI.mk (fun h => h.2) ?_
        | with_reducible refine NeedI.mk (fun h => h.1) ?_
        | with_reducible exact Done.mk
        | with_reducible refine Both.mk (fun _ => ?_) (fun _ => ?_)
        | with_reducible refine Both2.mk (fun _ => ?_) ?_
        | with_reducible refine Need.mk (by with_reducible exact CEq.refl _) ?_
        | (fail_if_success with_reducible refine LoopVC.mk ?_
           fail_if_success with_reducible refine Need.mk ?_ ?_
           fail_if_success with_reducible refine CallVC.mk ?_
           fail_if_success with_reducible refine LoopEnd.mk ?_
           fail_if_success with_reducible refine Out.mk ?_
           fail_if_success with_reducible show False
           fail_if_success with_reducible refine NeedI.mk ?_ ?_
           conv => whnf)
  · rename_i h1
    simp only [Bool.or_eq_false_iff, decide_eq_false_iff_not] at h1
    refine LoopVC.inv (fun i : Nat => i ≤ d.secs.length ∧ ∀ k, k < i → (d.secs.getD k default).length = 16) (fun i => stL [(1, .va 1 0 0), (3, .c (.int .i64 i))] [(1, vE [.c (slL 1 strE d.secs), .c (slL 2 wrE d.cache)])])
      (fun i => d.secs.length - i) 0 ⟨Nat.zero_le _, fun k hk => by omega⟩ (Le.of ⟨⟨rfl, rfl, rfl⟩, rfl, trivial⟩ ⟨⟨_, rfl, SubE.var2 (CEq.refl _) (CEq.refl _)⟩, trivial⟩) ?_
    rintro Q hQ i ⟨hi, hi2⟩
    have hle : ¬ i < d.secs.length ∨ (d.secs.getD i default).length ≤ 9223372036854775807 := by
      by_cases h : i < d.secs.length
      · exact .inr (W.2.2.1 _ (getD_mem h))
      · exact .inl h
    repeat' first
      | with_reducible refine NeedI.mk (fun h => h) ?_
      | with_reducible refine NeedI.mk (fun h => h.2) ?_
      | with_reducible refine NeedI.mk (fun h => h.1) ?_
      | with_reducible exact Done.mk
      | with_reducible refine Both.mk (fun _ => ?_) (fun _ => ?_)
      | with_reducible refine Both2.mk (fun _ => ?_) ?_
      | with_reducible refine Need.mk (by first | with_reducible exact CEq.refl _ | omega | (simp only [decide_eq_true_eq, decide_eq_false_iff_not, Bool.or_eq_true, Bool.and_eq_true, Bool.or_eq_false_iff, Int.toNat_natCast, addN_eq, cond_false, cond_true, rng] at *; omega)) ?_
      | (fail_if_success with_reducible refine LoopVC.mk ?_
         fail_if_success with_reducible refine Need.mk ?_ ?_
         fail_if_success with_reducible refine CallVC.mk ?_
         fail_if_success with_reducible refine LoopEnd.mk ?_
         fail_if_success with_reducible refine Out.mk ?_
         fail_if_success with_reducible show False
         fail_if_success with_reducible refine NeedI.mk ?_ ?_
         conv => whnf)
    · rename_i h3 h4
      simp only [decide_eq_true_eq, Bool.not_eq_true', decide_eq_false_iff_not, Int.toNat_natCast, addN_eq, Nat.zero_add] at h3 h4
      refine Out.mk (hQ _ _ ?_)
      repeat' first
        | with_reducible refine NeedI.mk (fun h => h) ?_
        | with_reducible refine NeedI.mk (fun h => h.2) ?_
        | with_reducible refine NeedI.mk (fun h => h.1) ?_
        | with_reducible exact Done.mk
        | with_reducible refine Both.mk (fun _ => ?_) (fun _ => ?_)
        | with_reducible refine Both2.mk (fun _ => ?_) ?_
        | with_reducible refine Need.mk (by with_reducible exact Nat.le_of_eq (Nat.zero_add _)) ?_
        | (fail_if_success with_reducible refine LoopVC.mk ?_
           fail_if_success with_reducible refine Need.mk ?_ ?_
           fail_if_success with_reducible refine CallVC.mk ?_
           fail_if_success with_reducible refine LoopEnd.mk ?_
           fail_if_success with_reducible refine Out.mk ?_
           fail_if_success with_reducible show False
           fail_if_success with_reducible refine NeedI.mk ?_ ?_
           conv => whnf)
      refine Need.mk (eB ?_) ?_
      · symm; rw [decide_eq_false_iff_not]
        intro hr
        have h5 := hr.2.2.2.1 _ (getD_mem (show i < d.secs.length by omega))
        omega
      · repeat' first
          | with_reducible refine NeedI.mk (fun h => h) ?_
          | with_reducible refine NeedI.mk (fun h => h.2) ?_
          | with_reducible refine NeedI.mk (fun h => h.1) ?_
          | with_reducible exact Done.mk
          | with_reducible refine Both.mk (fun _ => ?_) (fun _ => ?_)
          | with_reducible refine Both2.mk (fun _ => ?_) ?_
          | with_reducible refine Need.mk (by with_reducible exact CEq.refl _) ?_
          | (fail_if_success with_reducible refine LoopVC.mk ?_
             fail_if_success with_reducible refine Need.mk ?_ ?_
             fail_if_success with_reducible refine CallVC.mk ?_
             fail_if_success with_reducible refine LoopEnd.mk ?_
             fail_if_success with_reducible refine Out.mk ?_
             fail_if_success with_reducible show False
             fail_if_success with_reducible refine NeedI.mk ?_ ?_
             conv => whnf)
    · rename_i h3 h4
      simp only [decide_eq_true_eq, Bool.not_eq_false', decide_eq_false_iff_not, Int.toNat_natCast, addN_eq, Nat.zero_add] at h3 h4
      refine LoopEnd.mk ⟨i + 1, ⟨by omega, fun k hk => ?_⟩, by omega, Le.of ⟨⟨rfl, rfl, rfl⟩, cI (by simp), trivial⟩ ⟨⟨_, rfl, SubE.var2 (CEq.refl _) (CEq.refl _)⟩, trivial⟩⟩
      rcases Nat.lt_or_ge k i with h | h
      · exact hi2 k h
      · obtain rfl : k = i := by omega
        omega
    · rename_i h3
      simp only [decide_eq_false_iff_not] at h3
      refine Out.mk (hQ _ _ ?_)
      have hsec : ∀ s ∈ d.secs, s.length = 16 := by
        obtain rfl : i = d.secs.length := by omega
        exact all_of_getD hi2
      repeat' first
        | with_reducible refine NeedI.mk (fun h => h) ?_
        | with_reducible refine NeedI.mk (fun h => h.2) ?_
        | with_reducible refine NeedI.mk (fun h => h.1) ?_
        | with_reducible exact Done.mk
        | with_reducible refine Both.mk (fun _ => ?_) (fun _ => ?_)
        | with_reducible refine Both2.mk (fun _ => ?_) ?_
        | with_reducible refine Need.mk (by first | with_reducible exact CEq.refl _ | omega | (simp only [decide_eq_true_eq, decide_eq_false_iff_not, Bool.or_eq_true, Bool.and_eq_true, Bool.or_eq_false_iff, Int.toNat_natCast, addN_eq, cond_false, cond_true, rng] at *; omega)) ?_
        | (fail_if_success with_reducible refine LoopVC.mk ?_
           fail_if_success with_reducible refine Need.mk ?_ ?_
           fail_if_success with_reducible refine CallVC.mk ?_
           fail_if_success with_reducible refine LoopEnd.mk ?_
           fail_if_success with_reducible refine Out.mk ?_
           fail_if_success with_reducible show False
           fail_if_success with_reducible refine NeedI.mk ?_ ?_
           conv => whnf)
      refine LoopVC.inv (fun i : Nat => i ≤ d.cache.length ∧ ∀ k, k < i → fits d (d.cache.getD k default)) (fun i => stL [(1, .va 1 0 0), (4, .c (.int .i64 i))] [(1, vE [.c (slL 1 strE d.secs), .c (slL 2 wrE d.cache)])])
        (fun i => d.cache.length - i) 0 ⟨Nat.zero_le _, fun k hk => by omega⟩ (Le.of ⟨⟨rfl, rfl, rfl⟩, rfl, trivial⟩ ⟨⟨_, rfl, SubE.var2 (CEq.refl _) (CEq.refl _)⟩, trivial⟩) ?_
      rintro Q2 hQ2 k ⟨hk, hk2⟩
      have hle2 : ¬ k < d.cache.length ∨ (d.cache.getD k default).data.length ≤ 9223372036854775807 := by
        by_cases h : k < d.cache.length
        · exact .inr (W.2.2.2 _ (getD_mem h))
        · exact .inl h
      repeat' first
        | with_reducible refine NeedI.mk (fun h => h) ?_
        | with_reducible refine NeedI.mk (fun h => h.2) ?_
        | with_reducible refine NeedI.mk (fun h => h.1) ?_
        | with_reducible exact Done.mk
        | with_reducible refine Both.mk (fun _ => ?_) (fun _ => ?_)
        | with_reducible refine Both2.mk (fun _ => ?_) ?_
        | with_reducible refine Need.mk (by first | with_reducible exact CEq.refl _ | omega | (simp only [decide_eq_true_eq, decide_eq_false_iff_not, Bool.or_eq_true, Bool.and_eq_true, Bool.or_eq_false_iff, Int.toNat_natCast, addN_eq, cond_false, cond_true, rng] at *; omega)) ?_
        | (fail_if_success with_reducible refine LoopVC.mk ?_
           fail_if_success with_reducible refine Need.mk ?_ ?_
           fail_if_success with_reducible refine CallVC.mk ?_
           fail_if_success with_reducible refine LoopEnd.mk ?_
           fail_if_success with_reducible refine Out.mk ?_
           fail_if_success with_reducible show False
           fail_if_success with_reducible refine NeedI.mk ?_ ?_
           conv => whnf)
      · rename_i h4 h5
        simp only [decide_eq_true_eq, Bool.or_eq_true, Bool.not_eq_true', decide_eq_false_iff_not, Int.toNat_natCast, addN_eq, Nat.zero_add] at h4 h5
        refine Out.mk (hQ2 _ _ ?_)
        repeat' first
          | with_reducible refine NeedI.mk (fun h => h) ?_
          | with_reducible refine NeedI.mk (fun h => h.2) ?_
          | with_reducible refine NeedI.mk (fun h => h.1) ?_
          | with_reducible exact Done.mk
          | with_reducible refine Both.mk (fun _ => ?_) (fun _ => ?_)
          | with_reducible refine Both2.mk (fun _ => ?_) ?_
          | with_reducible refine Need.mk (by with_reducible exact Nat.le_of_eq (Nat.zero_add _)) ?_
          | (fail_if_success with_reducible refine LoopVC.mk ?_
             fail_if_success with_reducible refine Need.mk ?_ ?_
             fail_if_success with_reducible refine CallVC.mk ?_
             fail_if_success with_reducible refine LoopEnd.mk ?_
             fail_if_success with_reducible refine Out.mk ?_
             fail_if_success with_reducible show False
             fail_if_success with_reducible refine NeedI.mk ?_ ?_
             conv => whnf)
        refine Need.mk (eB ?_) ?_
        · symm; rw [decide_eq_false_iff_not]
          intro hr
          have h6 := hr.2.2.2.2 _ (getD_mem (show k < d.cache.length by omega))
          unfold fits at h6
          omega
        · repeat' first
            | with_reducible refine NeedI.mk (fun h => h) ?_
            | with_reducible refine NeedI.mk (fun h => h.2) ?_
            | with_reducible refine NeedI.mk (fun h => h.1) ?_
            | with_reducible exact Done.mk
            | with_reducible refine Both.mk (fun _ => ?_) (fun _ => ?_)
            | with_reducible refine Both2.mk (fun _ => ?_) ?_
            | with_reducible refine Need.mk (by with_reducible exact CEq.refl _) ?_
            | (fail_if_success with_reducible refine LoopVC.mk ?_
               fail_if_success with_reducible refine Need.mk ?_ ?_
               fail_if_success with_reducible refine CallVC.mk ?_
               fail_if_success with_reducible refine LoopEnd.mk ?_
               fail_if_success with_reducible refine Out.mk ?_
               fail_if_success with_reducible show False
               fail_if_success with_reducible refine NeedI.mk ?_ ?_
               conv => whnf)
      · rename_i h4 h5
        simp only [decide_eq_true_eq, Bool.or_eq_false_iff, Bool.not_eq_false', decide_eq_false_iff_not, Int.toNat_natCast, addN_eq, Nat.zero_add] at h4 h5
        refine LoopEnd.mk ⟨k + 1, ⟨by omega, fun m hm => ?_⟩, by omega, Le.of ⟨⟨rfl, rfl, rfl⟩, cI (by simp), trivial⟩ ⟨⟨_, rfl, SubE.var2 (CEq.refl _) (CEq.refl _)⟩, trivial⟩⟩
        rcases Nat.lt_or_ge m k with h | h
        · exact hk2 m h
        · obtain rfl : m = k := by omega
          unfold fits
          omega
      · rename_i h4
        simp only [decide_eq_false_iff_not] at h4
        refine Out.mk (hQ2 _ _ ?_)
        repeat' first
          | with_reducible refine NeedI.mk (fun h => h) ?_
          | with_reducible refine NeedI.mk (fun h => h.2) ?_
          | with_reducible refine NeedI.mk (fun h => h.1) ?_
          | with_reducible exact Done.mk
          | with_reducible refine Both.mk (fun _ => ?_) (fun _ => ?_)
          | with_reducible refine Both2.mk (fun _ => ?_) ?_
          | with_reducible refine Need.mk (by with_reducible exact Nat.le_of_eq (Nat.zero_add _)) ?_
          | (fail_if_success with_reducible refine LoopVC.mk ?_
             fail_if_success with_reducible refine Need.mk ?_ ?_
             fail_if_success with_reducible refine CallVC.mk ?_
             fail_if_success with_reducible refine LoopEnd.mk ?_
             fail_if_success with_reducible refine Out.mk ?_
             fail_if_success with_reducible show False
             fail_if_success with_reducible refine NeedI.mk ?_ ?_
             conv => whnf)
        refine Need.mk (eB ?_) ?_
        · symm; rw [decide_eq_true_eq]
          obtain rfl : k = d.cache.length := by omega
          exact ⟨by omega, by omega, by omega, hsec, all_of_getD hk2⟩
        · repeat' first
            | with_reducible refine NeedI.mk (fun h => h) ?_
            | with_reducible refine NeedI.mk (fun h => h.2) ?_
            | with_reducible refine NeedI.mk (fun h => h.1) ?_
            | with_reducible exact Done.mk
            | with_reducible refine Both.mk (fun _ => ?_) (fun _ => ?_)
            | with_reducible refine Both2.mk (fun _ => ?_) ?_
            | with_reducible refine Need.mk (by with_reducible exact CEq.refl _) ?_
            | (fail_if_success with_reducible refine LoopVC.mk ?_
               fail_if_success with_reducible refine Need.mk ?_ ?_
               fail_if_success with_reducible refine CallVC.mk ?_
               fail_if_success with_reducible refine LoopEnd.mk ?_
               fail_if_success with_reducible refine Out.mk ?_
               fail_if_success with_reducible show False
               fail_if_success with_reducible refine NeedI.mk ?_ ?_
               conv => whnf)

theorem eq_of_getD {α : Type} [Inhabited α] {l m : List α} (hn : l.length = m.length) (h : ∀ i, i < l.length → l.getD i default = m.getD i default) : l = m :=
  List.ext_getElem hn fun i h1 h2 => by have := h i h1; rwa [getD_eq h1, getD_eq h2] at this

set_option maxHeartbeats 8000000 in
set_option maxRecDepth 100000 in
theorem same_ok (K : KRef P F) (a b : Dsk) (Sa : Small a) (Sb : Small b) : FnOk P (F 38) [.many 2 (dskE a), .many 2 (dskE b)] [.one (.im (.bool (decide (a = b))))] := by
  refine fnOk K.m K.same ?_
  have hs := Sa.s
  have hc := Sa.c
  have hs' := Sb.s
  have hc' := Sb.c
  repeat' first
    | with_reducible refine NeedI.mk (fun h => h) ?_
    | with_reducible refine NeedI.mk (fun h => h.2) ?_
    | with_reducible refine NeedI.mk (fun h => h.1) ?_
    | with_reducible exact Done.mk
    | with_reducible refine Both.mk (fun _ => ?_) (fun _ => ?_)
    | with_reducible refine Both2.mk (fun _ => ?_) ?_
    | with_reducible refine Need.mk (by first | omega | with_reducible exact CEq.refl _) ?_
    | (fail_if_success with_reducible refine LoopVC.mk ?_
       fail_if_success with_reducible refine Need.mk ?_ ?_
       fail_if_success with_reducible refine CallVC.mk ?_
       fail_if_success with_reducible refine LoopEnd.mk ?_
       fail_if_success with_reducible refine Out.mk ?_
       fail_if_success with_reducible show False
       fail_if_success with_reducible refine NeedI.mk ?_ ?_
       conv => whnf)
  · rename_i h
    simp only [Bool.or_eq_true, Bool.not_eq_true', decide_eq_false_iff_not] at h
    refine Need.mk (eB ?_) ?_
    · symm; rw [decide_eq_false_iff_not]; rintro rfl; omega
    · repeat' first
        | with_reducible refine NeedI.mk (fun h => h) ?_
        | with_reducible refine NeedI.mk (fun h => h.2) ?_
        | with_reducible refine NeedI.mk (fun h => h.1) ?_
        | with_reducible exact Done.mk
        | with_reducible refine Both.mk (fun _ => ?_) (fun _ => ?_)
        | with_reducible refine Both2.mk (fun _ => ?_) ?_
        | with_reducible refine Need.mk (by with_reducible exact CEq.refl _) ?_
        | (fail_if_success with_reducible refine LoopVC.mk ?_
           fail_if_success with_reducible refine Need.mk ?_ ?_
           fail_if_success with_reducible refine CallVC.mk ?_
           fail_if_success with_reducible refine LoopEnd.mk ?_
           fail_if_success with_reducible refine Out.mk ?_
           fail_if_success with_reducible show False
           fail_if_success with_reducible refine NeedI.mk ?_ ?_
           conv => whnf)
  · rename_i h1
    simp only [Bool.or_eq_false_iff, Bool.not_eq_false', decide_eq_true_eq] at h1
    have h1s : a.secs.length = b.secs.length := by omega
    have h1c : a.cache.length = b.cache.length := by omega
    refine LoopVC.inv (fun i : Nat => i ≤ a.secs.length ∧ ∀ k, k < i → a.secs.getD k default = b.secs.getD k default) (fun i => stL [(2, .va 2 0 0), (3, .va 3 0 0), (5, .c (.int .i64 i))] [(2, vE [.c (slL 1 strE a.secs), .c (slL 2 wrE a.cache)]), (3, vE [.c (slL 1 strE b.secs), .c (slL 2 wrE b.cache)])])
      (fun i => a.secs.length - i) 0 ⟨Nat.zero_le _, fun k hk => by omega⟩ (Le.of ⟨⟨rfl, rfl, rfl⟩, ⟨rfl, rfl, rfl⟩, rfl, trivial⟩ ⟨⟨_, rfl, SubE.var2 (CEq.refl _) (CEq.refl _)⟩, ⟨_, rfl, SubE.var2 (CEq.refl _) (CEq.refl _)⟩, trivial⟩) ?_
    rintro Q hQ i ⟨hi, hi2⟩
    repeat' first
      | with_reducible refine NeedI.mk (fun h => h) ?_
      | with_reducible refine NeedI.mk (fun h => h.2) ?_
      | with_reducible refine NeedI.mk (fun h => h.1) ?_
      | with_reducible exact Done.mk
      | with_reducible refine Both.mk (fun _ => ?_) (fun _ => ?_)
      | with_reducible refine Both2.mk (fun _ => ?_) ?_
      | with_reducible refine Need.mk (by first | with_reducible exact CEq.refl _ | omega | (simp only [decide_eq_true_eq, decide_eq_false_iff_not, Bool.or_eq_true, Bool.and_eq_true, Bool.or_eq_false_iff, Int.toNat_natCast, addN_eq, cond_false, cond_true, rng] at *; omega)) ?_
      | (fail_if_success with_reducible refine LoopVC.mk ?_
         fail_if_success with_reducible refine Need.mk ?_ ?_
         fail_if_success with_reducible refine CallVC.mk ?_
         fail_if_success with_reducible refine LoopEnd.mk ?_
         fail_if_success with_reducible refine Out.mk ?_
         fail_if_success with_reducible show False
         fail_if_success with_reducible refine NeedI.mk ?_ ?_
         conv => whnf)
    · rename_i h3 h4
      simp only [decide_eq_true_eq, Bool.not_eq_true', decide_eq_false_iff_not, Int.toNat_natCast, addN_eq, Nat.zero_add] at h3 h4
      refine Out.mk (hQ _ _ ?_)
      repeat' first
        | with_reducible refine NeedI.mk (fun h => h) ?_
        | with_reducible refine NeedI.mk (fun h => h.2) ?_
        | with_reducible refine NeedI.mk (fun h => h.1) ?_
        | with_reducible exact Done.mk
        | with_reducible refine Both.mk (fun _ => ?_) (fun _ => ?_)
        | with_reducible refine Both2.mk (fun _ => ?_) ?_
        | with_reducible refine Need.mk (by with_reducible exact Nat.le_of_eq (Nat.zero_add _)) ?_
        | (fail_if_success with_reducible refine LoopVC.mk ?_
           fail_if_success with_reducible refine Need.mk ?_ ?_
           fail_if_success with_reducible refine CallVC.mk ?_
           fail_if_success with_reducible refine LoopEnd.mk ?_
           fail_if_success with_reducible refine Out.mk ?_
           fail_if_success with_reducible show False
           fail_if_success with_reducible refine NeedI.mk ?_ ?_
           conv => whnf)
      refine Need.mk (eB ?_) ?_
      · symm; rw [decide_eq_false_iff_not]
        rintro rfl
        exact h4 rfl
      · repeat' first
          | with_reducible refine NeedI.mk (fun h => h) ?_
          | with_reducible refine NeedI.mk (fun h => h.2) ?_
          | with_reducible refine NeedI.mk (fun h => h.1) ?_
          | with_reducible exact Done.mk
          | with_reducible refine Both.mk (fun _ => ?_) (fun _ => ?_)
          | with_reducible refine Both2.mk (fun _ => ?_) ?_
          | with_reducible refine Need.mk (by with_reducible exact CEq.refl _) ?_
          | (fail_if_success with_reducible refine LoopVC.mk ?_
             fail_if_success with_reducible refine Need.mk ?_ ?_
             fail_if_success with_reducible refine CallVC.mk ?_
             fail_if_success with_reducible refine LoopEnd.mk ?_
             fail_if_success with_reducible refine Out.mk ?_
             fail_if_success with_reducible show False
             fail_if_success with_reducible refine NeedI.mk ?_ ?_
             conv => whnf)
    · rename_i h3 h4
      simp only [decide_eq_true_eq, Bool.not_eq_false', decide_eq_false_iff_not, Int.toNat_natCast, addN_eq, Nat.zero_add] at h3 h4
      refine LoopEnd.mk ⟨i + 1, ⟨by omega, fun k hk => ?_⟩, by omega, Le.of ⟨⟨rfl, rfl, rfl⟩, ⟨rfl, rfl, rfl⟩, cI (by simp), trivial⟩ ⟨⟨_, rfl, SubE.var2 (CEq.refl _) (CEq.refl _)⟩, ⟨_, rfl, SubE.var2 (CEq.refl _) (CEq.refl _)⟩, trivial⟩⟩
      rcases Nat.lt_or_ge k i with h | h
      · exact hi2 k h
      · obtain rfl : k = i := by omega
        exact h4
    · rename_i h3
      simp only [decide_eq_false_iff_not] at h3
      refine Out.mk (hQ _ _ ?_)
      have hsec : a.secs = b.secs := by
        obtain rfl : i = a.secs.length := by omega
        exact eq_of_getD h1s hi2
      repeat' first
        | with_reducible refine NeedI.mk (fun h => h) ?_
        | with_reducible refine NeedI.mk (fun h => h.2) ?_
        | with_reducible refine NeedI.mk (fun h => h.1) ?_
        | with_reducible exact Done.mk
        | with_reducible refine Both.mk (fun _ => ?_) (fun _ => ?_)
        | with_reducible refine Both2.mk (fun _ => ?_) ?_
        | with_reducible refine Need.mk (by first | with_reducible exact CEq.refl _ | omega | (simp only [decide_eq_true_eq, decide_eq_false_iff_not, Bool.or_eq_true, Bool.and_eq_true, Bool.or_eq_false_iff, Int.toNat_natCast, addN_eq, cond_false, cond_true, rng] at *; omega)) ?_
        | (fail_if_success with_reducible refine LoopVC.mk ?_
           fail_if_success with_reducible refine Need.mk ?_ ?_
           fail_if_success with_reducible refine CallVC.mk ?_
           fail_if_success with_reducible refine LoopEnd.mk ?_
           fail_if_success with_reducible refine Out.mk ?_
           fail_if_success with_reducible show False
           fail_if_success with_reducible refine NeedI.mk ?_ ?_
           conv => whnf)
      refine LoopVC.inv (fun i : Nat => i ≤ a.cache.length ∧ ∀ k, k < i → a.cache.getD k default = b.cache.getD k default) (fun i => stL [(2, .va 2 0 0), (3, .va 3 0 0), (6, .c (.int .i64 i))] [(2, vE [.c (slL 1 strE a.secs), .c (slL 2 wrE a.cache)]), (3, vE [.c (slL 1 strE b.secs), .c (slL 2 wrE b.cache)])])
        (fun i => a.cache.length - i) 0 ⟨Nat.zero_le _, fun k hk => by omega⟩ (Le.of ⟨⟨rfl, rfl, rfl⟩, ⟨rfl, rfl, rfl⟩, rfl, trivial⟩ ⟨⟨_, rfl, SubE.var2 (CEq.refl _) (CEq.refl _)⟩, ⟨_, rfl, SubE.var2 (CEq.refl _) (CEq.refl _)⟩, trivial⟩) ?_
      rintro Q2 hQ2 k ⟨hk, hk2⟩
      repeat' first
        | with_reducible refine NeedI.mk (fun h => h) ?_
        | with_reducible refine NeedI.mk (fun h => h.2) ?_
        | with_reducible refine NeedI.mk (fun h => h.1) ?_
        | with_reducible exact Done.mk
        | with_reducible refine Both.mk (fun _ => ?_) (fun _ => ?_)
        | with_reducible refine Both2.mk (fun _ => ?_) ?_
        | with_reducible refine Need.mk (by first | with_reducible exact CEq.refl _ | omega | (simp only [decide_eq_true_eq, decide_eq_false_iff_not, Bool.or_eq_true, Bool.and_eq_true, Bool.or_eq_false_iff, Int.toNat_natCast, addN_eq, cond_false, cond_true, rng] at *; omega)) ?_
        | (fail_if_success with_reducible refine LoopVC.mk ?_
           fail_if_success with_reducible refine Need.mk ?_ ?_
           fail_if_success with_reducible refine CallVC.mk ?_
           fail_if_success with_reducible refine LoopEnd.mk ?_
           fail_if_success with_reducible refine Out.mk ?_
           fail_if_success with_reducible show False
           fail_if_success with_reducible refine NeedI.mk ?_ ?_
           conv => whnf)
      · rename_i h4 h5
        simp only [decide_eq_true_eq, cond_true, Bool.not_eq_true', Int.toNat_natCast] at h4 h5
        refine Out.mk (hQ2 _ _ ?_)
        repeat' first
          | with_reducible refine NeedI.mk (fun h => h) ?_
          | with_reducible refine NeedI.mk (fun h => h.2) ?_
          | with_reducible refine NeedI.mk (fun h => h.1) ?_
          | with_reducible exact Done.mk
          | with_reducible refine Both.mk (fun _ => ?_) (fun _ => ?_)
          | with_reducible refine Both2.mk (fun _ => ?_) ?_
          | with_reducible refine Need.mk (by with_reducible exact Nat.le_of_eq (Nat.zero_add _)) ?_
          | (fail_if_success with_reducible refine LoopVC.mk ?_
             fail_if_success with_reducible refine Need.mk ?_ ?_
             fail_if_success with_reducible refine CallVC.mk ?_
             fail_if_success with_reducible refine LoopEnd.mk ?_
             fail_if_success with_reducible refine Out.mk ?_
             fail_if_success with_reducible show False
             fail_if_success with_reducible refine NeedI.mk ?_ ?_
             conv => whnf)
        refine Need.mk (eB ?_) ?_
        · symm; rw [decide_eq_false_iff_not]
          rintro rfl
          simp at h5
        · repeat' first
            | with_reducible refine NeedI.mk (fun h => h) ?_
            | with_reducible refine NeedI.mk (fun h => h.2) ?_
            | with_reducible refine NeedI.mk (fun h => h.1) ?_
            | with_reducible exact Done.mk
            | with_reducible refine Both.mk (fun _ => ?_) (fun _ => ?_)
            | with_reducible refine Both2.mk (fun _ => ?_) ?_
            | with_reducible refine Need.mk (by with_reducible exact CEq.refl _) ?_
            | (fail_if_success with_reducible refine LoopVC.mk ?_
               fail_if_success with_reducible refine Need.mk ?_ ?_
               fail_if_success with_reducible refine CallVC.mk ?_
               fail_if_success with_reducible refine LoopEnd.mk ?_
               fail_if_success with_reducible refine Out.mk ?_
               fail_if_success with_reducible show False
               fail_if_success with_reducible refine NeedI.mk ?_ ?_
               conv => whnf)
      · rename_i h4 h5
        simp only [decide_eq_true_eq, cond_true, Bool.not_eq_false', Bool.and_eq_true, Int.toNat_natCast] at h4 h5
        refine LoopEnd.mk ⟨k + 1, ⟨by omega, fun m hm => ?_⟩, by omega, Le.of ⟨⟨rfl, rfl, rfl⟩, ⟨rfl, rfl, rfl⟩, cI (by simp), trivial⟩ ⟨⟨_, rfl, SubE.var2 (CEq.refl _) (CEq.refl _)⟩, ⟨_, rfl, SubE.var2 (CEq.refl _) (CEq.refl _)⟩, trivial⟩⟩
        rcases Nat.lt_or_ge m k with h | h
        · exact hk2 m h
        · obtain rfl : m = k := by omega
          obtain ⟨h6, h7⟩ := h5
          cases hx : a.cache.getD m default
          cases hy : b.cache.getD m default
          rw [hx, hy] at h6 h7
          simp only at h6 h7
          subst h6; subst h7; rfl
      · rename_i h4
        simp only [decide_eq_false_iff_not] at h4
        refine Out.mk (hQ2 _ _ ?_)
        repeat' first
          | with_reducible refine NeedI.mk (fun h => h) ?_
          | with_reducible refine NeedI.mk (fun h => h.2) ?_
          | with_reducible refine NeedI.mk (fun h => h.1) ?_
          | with_reducible exact Done.mk
          | with_reducible refine Both.mk (fun _ => ?_) (fun _ => ?_)
          | with_reducible refine Both2.mk (fun _ => ?_) ?_
          | with_reducible refine Need.mk (by with_reducible exact Nat.le_of_eq (Nat.zero_add _)) ?_
          | (fail_if_success with_reducible refine LoopVC.mk ?_
             fail_if_success with_reducible refine Need.mk ?_ ?_
             fail_if_success with_reducible refine CallVC.mk ?_
             fail_if_success with_reducible refine LoopEnd.mk ?_
             fail_if_success with_reducible refine Out.mk ?_
             fail_if_success with_reducible show False
             fail_if_success with_reducible refine NeedI.mk ?_ ?_
             conv => whnf)
        refine Need.mk (eB ?_) ?_
        · symm; rw [decide_eq_true_eq]
          obtain rfl : k = a.cache.length := by omega
          have := eq_of_getD h1c hk2
          cases a; cases b
          simp only at hsec this
          subst hsec; subst this; rfl
        · repeat' first
            | with_reducible refine NeedI.mk (fun h => h) ?_
            | with_reducible refine NeedI.mk (fun h => h.2) ?_
            | with_reducible refine NeedI.mk (fun h => h.1) ?_
            | with_reducible exact Done.mk
            | with_reducible refine Both.mk (fun _ => ?_) (fun _ => ?_)
            | with_reducible refine Both2.mk (fun _ => ?_) ?_
            | with_reducible refine Need.mk (by with_reducible exact CEq.refl _) ?_
            | (fail_if_success with_reducible refine LoopVC.mk ?_
               fail_if_success with_reducible refine Need.mk ?_ ?_
               fail_if_success with_reducible refine CallVC.mk ?_
               fail_if_success with_reducible refine LoopEnd.mk ?_
               fail_if_success with_reducible refine Out.mk ?_
               fail_if_success with_reducible show False
               fail_if_success with_reducible refine NeedI.mk ?_ ?_
               conv => whnf)

theorem mem_getD {l : List Int} {n : Int} : n ∈ l ↔ ∃ i, i < l.length ∧ l.getD i default = n := by
  rw [List.mem_iff_getElem]
  constructor
  · rintro ⟨i, h, e⟩; exact ⟨i, h, by rw [getD_eq h]; exact e⟩
  · rintro ⟨i, h, e⟩; exact ⟨i, h, by rw [getD_eq h] at e; exact e⟩

set_option maxHeartbeats 8000000 in
set_option maxRecDepth 100000 in
theorem in_ok (K : KRefC P F) (l : List Int) (n : Int) (hl : l.length ≤ 1000000) : FnOk P (F 54) [.one (slL 1 intE l), .one (.int .i64 n)] [.one (.im (.bool (decide (n ∈ l))))] := by
  refine fnOk K.m K.in_ ?_
  repeat' first
    | with_reducible refine NeedI.mk (fun h => h) ?_
    | with_reducible refine NeedI.mk (fun h => h.2) ?_
    | with_reducible refine NeedI.mk (fun h => h.1) ?_
    | with_reducible exact Done.mk
    | with_reducible refine Both.mk (fun _ => ?_) (fun _ => ?_)
    | with_reducible refine Both2.mk (fun _ => ?_) ?_
    | with_reducible refine Need.mk (by first | omega | with_reducible exact CEq.refl _) ?_
    | (fail_if_success with_reducible refine LoopVC.mk ?_
       fail_if_success with_reducible refine Need.mk ?_ ?_
       fail_if_success with_reducible refine CallVC.mk ?_
       fail_if_success with_reducible refine LoopEnd.mk ?_
       fail_if_success with_reducible refine Out.mk ?_
       fail_if_success with_reducible show False
       fail_if_success with_reducible refine NeedI.mk ?_ ?_
       conv => whnf)
  refine LoopVC.inv (fun i : Nat => i ≤ l.length ∧ ∀ k, k < i → l.getD k default ≠ n) (fun i => stL [(0, .c (slL 1 intE l)), (1, .c (.int .i64 n)), (5, .c (.int .i64 i))] [])
      (fun i => l.length - i) 0 ⟨Nat.zero_le _, fun k hk => by omega⟩ (Le.of ⟨CEq.refl _, rfl, rfl, trivial⟩ trivial) ?_
  rintro Q hQ i ⟨hi, hi2⟩
  repeat' first
    | with_reducible refine NeedI.mk (fun h => h) ?_
    | with_reducible refine NeedI.mk (fun h => h.2) ?_
    | with_reducible refine NeedI.mk (fun h => h.1) ?_
    | with_reducible exact Done.mk
    | with_reducible refine Both.mk (fun _ => ?_) (fun _ => ?_)
    | with_reducible refine Both2.mk (fun _ => ?_) ?_
    | with_reducible refine Need.mk (by first | with_reducible exact CEq.refl _ | omega | (simp only [decide_eq_true_eq, decide_eq_false_iff_not, Bool.or_eq_true, Bool.and_eq_true, Bool.or_eq_false_iff, Int.toNat_natCast, addN_eq, cond_false, cond_true, rng] at *; omega)) ?_
    | (fail_if_success with_reducible refine LoopVC.mk ?_
       fail_if_success with_reducible refine Need.mk ?_ ?_
       fail_if_success with_reducible refine CallVC.mk ?_
       fail_if_success with_reducible refine LoopEnd.mk ?_
       fail_if_success with_reducible refine Out.mk ?_
       fail_if_success with_reducible show False
       fail_if_success with_reducible refine NeedI.mk ?_ ?_
       conv => whnf)
  · rename_i h3 h4
    simp only [decide_eq_true_eq, Int.toNat_natCast, addN_eq, Nat.zero_add] at h3 h4
    refine Out.mk (hQ _ _ ?_)
    repeat' first
      | with_reducible refine NeedI.mk (fun h => h) ?_
      | with_reducible refine NeedI.mk (fun h => h.2) ?_
      | with_reducible refine NeedI.mk (fun h => h.1) ?_
      | with_reducible exact Done.mk
      | with_reducible refine Both.mk (fun _ => ?_) (fun _ => ?_)
      | with_reducible refine Both2.mk (fun _ => ?_) ?_
      | with_reducible refine Need.mk (by with_reducible exact Nat.le_of_eq (Nat.zero_add _)) ?_
      | (fail_if_success with_reducible refine LoopVC.mk ?_
         fail_if_success with_reducible refine Need.mk ?_ ?_
         fail_if_success with_reducible refine CallVC.mk ?_
         fail_if_success with_reducible refine LoopEnd.mk ?_
         fail_if_success with_reducible refine Out.mk ?_
         fail_if_success with_reducible show False
         fail_if_success with_reducible refine NeedI.mk ?_ ?_
         conv => whnf)
    refine Need.mk (eB ?_) ?_
    · symm; rw [decide_eq_true_eq, mem_getD]
      exact ⟨i, by omega, h4⟩
    · repeat' first
        | with_reducible refine NeedI.mk (fun h => h) ?_
        | with_reducible refine NeedI.mk (fun h => h.2) ?_
        | with_reducible refine NeedI.mk (fun h => h.1) ?_
        | with_reducible exact Done.mk
        | with_reducible refine Both.mk (fun _ => ?_) (fun _ => ?_)
        | with_reducible refine Both2.mk (fun _ => ?_) ?_
        | with_reducible refine Need.mk (by with_reducible exact CEq.refl _) ?_
        | (fail_if_success with_reducible refine LoopVC.mk ?_
           fail_if_success with_reducible refine Need.mk ?_ ?_
           fail_if_success with_reducible refine CallVC.mk ?_
           fail_if_success with_reducible refine LoopEnd.mk ?_
           fail_if_success with_reducible refine Out.mk ?_
           fail_if_success with_reducible show False
           fail_if_success with_reducible refine NeedI.mk ?_ ?_
           conv => whnf)
  · rename_i h3 h4
    simp only [decide_eq_true_eq, decide_eq_false_iff_not, Int.toNat_natCast, addN_eq, Nat.zero_add] at h3 h4
    refine LoopEnd.mk ⟨i + 1, ⟨by omega, fun k hk => ?_⟩, by omega, Le.of ⟨CEq.refl _, rfl, cI (by simp), trivial⟩ trivial⟩
    rcases Nat.lt_or_ge k i with h | h
    · exact hi2 k h
    · obtain rfl : k = i := by omega
      exact h4
  · rename_i h3
    simp only [decide_eq_false_iff_not] at h3
    obtain rfl : i = l.length := by omega
    refine Out.mk (hQ _ _ ?_)
    repeat' first
      | with_reducible refine NeedI.mk (fun h => h) ?_
      | with_reducible refine NeedI.mk (fun h => h.2) ?_
      | with_reducible refine NeedI.mk (fun h => h.1) ?_
      | with_reducible exact Done.mk
      | with_reducible refine Both.mk (fun _ => ?_) (fun _ => ?_)
      | with_reducible refine Both2.mk (fun _ => ?_) ?_
      | with_reducible refine Need.mk (by with_reducible exact Nat.le_of_eq (Nat.zero_add _)) ?_
      | (fail_if_success with_reducible refine LoopVC.mk ?_
         fail_if_success with_reducible refine Need.mk ?_ ?_
         fail_if_success with_reducible refine CallVC.mk ?_
         fail_if_success with_reducible refine LoopEnd.mk ?_
         fail_if_success with_reducible refine Out.mk ?_
         fail_if_success with_reducible show False
         fail_if_success with_reducible refine NeedI.mk ?_ ?_
         conv => whnf)
    refine Need.mk (eB ?_) ?_
    · symm; rw [decide_eq_false_iff_not, mem_getD]
      rintro ⟨j, hj, e⟩
      exact hi2 j hj e
    · repeat' first
        | with_reducible refine NeedI.mk (fun h => h) ?_
        | with_reducible refine NeedI.mk (fun h => h.2) ?_
        | with_reducible refine NeedI.mk (fun h => h.1) ?_
        | with_reducible exact Done.mk
        | with_reducible refine Both.mk (fun _ => ?_) (fun _ => ?_)
        | with_reducible refine Both2.mk (fun _ => ?_) ?_
        | with_reducible refine Need.mk (by with_reducible exact CEq.refl _) ?_
        | (fail_if_success with_reducible refine LoopVC.mk ?_
           fail_if_success with_reducible refine Need.mk ?_ ?_
           fail_if_success with_reducible refine CallVC.mk ?_
           fail_if_success with_reducible refine LoopEnd.mk ?_
           fail_if_success with_reducible refine Out.mk ?_
           fail_if_success with_reducible show False
           fail_if_success with_reducible refine NeedI.mk ?_ ?_
           conv => whnf)

set_option maxHeartbeats 8000000 in
set_option maxRecDepth 100000 in
theorem rread_ok (K : KRef P F) (d : Dsk) (i : Nat) (S : Small d) (hi : i < d.secs.length) : FnOk P (F 44) [.many 2 (dskE d), .one (.int .i64 i)] [.one (.im (.str (d.read i)))] := by
  refine fnOk K.m K.read ?_
  have hs := S.s
  have hc := S.c
  repeat' first
    | with_reducible refine NeedI.mk (fun h => h) ?_
    | with_reducible refine NeedI.mk (fun h => h.2) ?_
    | with_reducible refine NeedI.mk (fun h => h.1) ?_
    | with_reducible exact Done.mk
    | with_reducible refine Both.mk (fun _ => ?_) (fun _ => ?_)
    | with_reducible refine Both2.mk (fun _ => ?_) ?_
    | with_reducible refine Need.mk (by first | omega | with_reducible exact CEq.refl _ | (simp only [decide_eq_true_eq, decide_eq_false_iff_not, Bool.or_eq_true, Bool.and_eq_true, Bool.or_eq_false_iff, Int.toNat_natCast, addN_eq, cond_false, cond_true, rng] at *; omega)) ?_
    | (fail_if_success with_reducible refine LoopVC.mk ?_
       fail_if_success with_reducible refine Need.mk ?_ ?_
       fail_if_success with_reducible refine CallVC.mk ?_
       fail_if_success with_reducible refine LoopEnd.mk ?_
       fail_if_success with_reducible refine Out.mk ?_
       fail_if_success with_reducible show False
       fail_if_success with_reducible refine NeedI.mk ?_ ?_
       conv => whnf)
  refine LoopVC.inv (fun k : Nat => k ≤ d.cache.length ∧ ∀ j, k ≤ j → j < d.cache.length → (d.cache.getD j default).at_ ≠ i) (fun k => stL [(1, .c (.int .i64 i)), (2, .va 2 0 0), (5, .c (.int .i64 (k - 1)))] [(2, vE [.c (slL 1 strE d.secs), .c (slL 2 wrE d.cache)])])
      (fun k => k) d.cache.length ⟨Nat.le_refl _, fun k hk => by omega⟩ (Le.of ⟨rfl, ⟨rfl, rfl, rfl⟩, rfl, trivial⟩ ⟨⟨_, rfl, SubE.var2 (CEq.refl _) (CEq.refl _)⟩, trivial⟩) ?_
  rintro Q hQ k ⟨hk, hk2⟩
  repeat' first
    | with_reducible refine NeedI.mk (fun h => h) ?_
    | with_reducible refine NeedI.mk (fun h => h.2) ?_
    | with_reducible refine NeedI.mk (fun h => h.1) ?_
    | with_reducible exact Done.mk
    | with_reducible refine Both.mk (fun _ => ?_) (fun _ => ?_)
    | with_reducible refine Both2.mk (fun _ => ?_) ?_
    | with_reducible refine Need.mk (by first | with_reducible exact CEq.refl _ | omega | (simp only [decide_eq_true_eq, decide_eq_false_iff_not, Bool.or_eq_true, Bool.and_eq_true, Bool.or_eq_false_iff, Int.toNat_natCast, addN_eq, cond_false, cond_true, rng] at *; omega)) ?_
    | (fail_if_success with_reducible refine LoopVC.mk ?_
       fail_if_success with_reducible refine Need.mk ?_ ?_
       fail_if_success with_reducible refine CallVC.mk ?_
       fail_if_success with_reducible refine LoopEnd.mk ?_
       fail_if_success with_reducible refine Out.mk ?_
       fail_if_success with_reducible show False
       fail_if_success with_reducible refine NeedI.mk ?_ ?_
       conv => whnf)
  · rename_i h3 h4
    simp only [decide_eq_true_eq] at h3 h4
    rw [show ((k : Int) - 1).toNat = k - 1 by omega] at h4 ⊢
    refine Out.mk (hQ _ _ ?_)
    repeat' first
      | with_reducible refine NeedI.mk (fun h => h) ?_
      | with_reducible refine NeedI.mk (fun h => h.2) ?_
      | with_reducible refine NeedI.mk (fun h => h.1) ?_
      | with_reducible exact Done.mk
      | with_reducible refine Both.mk (fun _ => ?_) (fun _ => ?_)
      | with_reducible refine Both2.mk (fun _ => ?_) ?_
      | with_reducible refine Need.mk (by with_reducible exact Nat.le_of_eq (Nat.zero_add _)) ?_
      | (fail_if_success with_reducible refine LoopVC.mk ?_
         fail_if_success with_reducible refine Need.mk ?_ ?_
         fail_if_success with_reducible refine CallVC.mk ?_
         fail_if_success with_reducible refine LoopEnd.mk ?_
         fail_if_success with_reducible refine Out.mk ?_
         fail_if_success with_reducible show False
         fail_if_success with_reducible refine NeedI.mk ?_ ?_
         conv => whnf)
    refine Need.mk (eS ?_) ?_
    · symm
      exact rdL_hit (k := k - 1) (by omega) h4 fun j hj hjl => hk2 j (by omega) hjl
    · repeat' first
        | with_reducible refine NeedI.mk (fun h => h) ?_
        | with_reducible refine NeedI.mk (fun h => h.2) ?_
        | with_reducible refine NeedI.mk (fun h => h.1) ?_
        | with_reducible exact Done.mk
        | with_reducible refine Both.mk (fun _ => ?_) (fun _ => ?_)
        | with_reducible refine Both2.mk (fun _ => ?_) ?_
        | with_reducible refine Need.mk (by with_reducible exact CEq.refl _) ?_
        | (fail_if_success with_reducible refine LoopVC.mk ?_
           fail_if_success with_reducible refine Need.mk ?_ ?_
           fail_if_success with_reducible refine CallVC.mk ?_
           fail_if_success with_reducible refine LoopEnd.mk ?_
           fail_if_success with_reducible refine Out.mk ?_
           fail_if_success with_reducible show False
           fail_if_success with_reducible refine NeedI.mk ?_ ?_
           conv => whnf)
  · rename_i h3 h4
    simp only [decide_eq_true_eq, decide_eq_false_iff_not] at h3 h4
    rw [show ((k : Int) - 1).toNat = k - 1 by omega] at h4
    refine LoopEnd.mk ⟨k - 1, ⟨by omega, fun j hj hjl => ?_⟩, by omega, Le.of ⟨rfl, ⟨rfl, rfl, rfl⟩, cI (by omega), trivial⟩ ⟨⟨_, rfl, SubE.var2 (CEq.refl _) (CEq.refl _)⟩, trivial⟩⟩
    rcases Nat.lt_or_ge j k with h | h
    · obtain rfl : j = k - 1 := by omega
      exact h4
    · exact hk2 j h hjl
  · rename_i h3
    simp only [decide_eq_false_iff_not] at h3
    obtain rfl : k = 0 := by omega
    refine Out.mk (hQ _ _ ?_)
    repeat' first
      | with_reducible refine NeedI.mk (fun h => h) ?_
      | with_reducible refine NeedI.mk (fun h => h.2) ?_
      | with_reducible refine NeedI.mk (fun h => h.1) ?_
      | with_reducible exact Done.mk
      | with_reducible refine Both.mk (fun _ => ?_) (fun _ => ?_)
      | with_reducible refine Both2.mk (fun _ => ?_) ?_
      | with_reducible refine Need.mk (by first | with_reducible exact CEq.refl _ | omega) ?_
      | (fail_if_success with_reducible refine LoopVC.mk ?_
         fail_if_success with_reducible refine Need.mk ?_ ?_
         fail_if_success with_reducible refine CallVC.mk ?_
         fail_if_success with_reducible refine LoopEnd.mk ?_
         fail_if_success with_reducible refine Out.mk ?_
         fail_if_success with_reducible show False
         fail_if_success with_reducible refine NeedI.mk ?_ ?_
         conv => whnf)
    refine Need.mk (eS ?_) ?_
    · rw [Dsk.read, rdL_none (all_of_getD fun j hj => hk2 j (Nat.zero_le _) hj)]; rfl
    · repeat' first
        | with_reducible refine NeedI.mk (fun h => h) ?_
        | with_reducible refine NeedI.mk (fun h => h.2) ?_
        | with_reducible refine NeedI.mk (fun h => h.1) ?_
        | with_reducible exact Done.mk
        | with_reducible refine Both.mk (fun _ => ?_) (fun _ => ?_)
        | with_reducible refine Both2.mk (fun _ => ?_) ?_
        | with_reducible refine Need.mk (by with_reducible exact CEq.refl _) ?_
        | (fail_if_success with_reducible refine LoopVC.mk ?_
           fail_if_success with_reducible refine Need.mk ?_ ?_
           fail_if_success with_reducible refine CallVC.mk ?_
           fail_if_success with_reducible refine LoopEnd.mk ?_
           fail_if_success with_reducible refine Out.mk ?_
           fail_if_success with_reducible show False
           fail_if_success with_reducible refine NeedI.mk ?_ ?_
           conv => whnf)

def refSync (d : Dsk) : Dsk := ⟨(List.range d.secs.length).map d.read, []⟩
theorem range_snoc {α : Type} (f : Nat → α) (i : Nat) : (List.range (i + 1)).map f = (List.range i).map f ++ [f i] := by
  rw [List.range_succ, List.map_append]; rfl
def mapR {α : Type} (f : Nat → α) (i : Nat) : List α := (List.range i).map f
theorem mapR_len {α : Type} (f : Nat → α) (i : Nat) : (mapR f i).length = i := by unfold mapR; simp
theorem mapR_succ {α : Type} (f : Nat → α) (i : Nat) : mapR f (i + 1) = mapR f i ++ [f i] := range_snoc f i

set_option maxHeartbeats 8000000 in
set_option maxRecDepth 100000 in
theorem rsync_ok (K : KRef P F) (d : Dsk) (S : Small d) : FnOk P (F 42) [.many 2 (dskE d)] [.many 2 (fun j => .im (dskE (refSync d) j))] := by
  refine fnOk K.m K.sync ?_
  have hs := S.s
  have hc := S.c
  repeat' first
    | with_reducible refine NeedI.mk (fun h => h) ?_
    | with_reducible refine NeedI.mk (fun h => h.2) ?_
    | with_reducible refine NeedI.mk (fun h => h.1) ?_
    | with_reducible exact Done.mk
    | with_reducible refine Both.mk (fun _ => ?_) (fun _ => ?_)
    | with_reducible refine Both2.mk (fun _ => ?_) ?_
    | with_reducible refine Need.mk (by first | omega | with_reducible exact CEq.refl _ | (simp only [decide_eq_true_eq, decide_eq_false_iff_not, Bool.or_eq_true, Bool.and_eq_true, Bool.or_eq_false_iff, Int.toNat_natCast, addN_eq, cond_false, cond_true, rng] at *; omega)) ?_
    | (fail_if_success with_reducible refine LoopVC.mk ?_
       fail_if_success with_reducible refine Need.mk ?_ ?_
       fail_if_success with_reducible refine CallVC.mk ?_
       fail_if_success with_reducible refine LoopEnd.mk ?_
       fail_if_success with_reducible refine Out.mk ?_
       fail_if_success with_reducible show False
       fail_if_success with_reducible refine NeedI.mk ?_ ?_
       conv => whnf)
  refine LoopVC.inv (fun i : Nat => i ≤ d.secs.length) (fun i => stL [(1, .va 1 0 0), (2, .va 2 0 0), (3, .va 3 0 0), (4, .c (.int .i64 i))]
      [(1, vE [.c (slL 1 strE d.secs), .c (slL 2 wrE d.cache)]), (2, vE [.nil 1, .nil 2]), (3, vE [.os 18 0 1 0 i, .nil 2]), (18, ⟨1, i, .dat fun r j => strE ((mapR d.read i).getD r default) j, false, true⟩)])
      (fun i => d.secs.length - i) 0 (Nat.zero_le _) ?_ ?_
  · refine Le.ofN [18] ⟨.inl ⟨rfl, rfl, rfl⟩, .inl ⟨rfl, rfl, rfl⟩, .inl ⟨rfl, rfl, rfl⟩, .inl rfl, trivial⟩
        ⟨.inr ⟨rfl, _, rfl, .of (SubE.var2 (CEq.refl _) (CEq.refl _))⟩, .inr ⟨rfl, _, rfl, .of (SubE.var2 trivial trivial)⟩, .inr ⟨rfl, _, rfl, .var2 (.inr ⟨_, _, _, rfl, rfl, rfl⟩) (.inl trivial)⟩, .inl ⟨rfl, rfl⟩, trivial⟩
  rintro Q hQ i hi
  repeat' first
    | with_reducible refine NeedI.mk (fun h => h) ?_
    | with_reducible refine NeedI.mk (fun h => h.2) ?_
    | with_reducible refine NeedI.mk (fun h => h.1) ?_
    | with_reducible exact Done.mk
    | with_reducible refine Both.mk (fun _ => ?_) (fun _ => ?_)
    | with_reducible refine Both2.mk (fun _ => ?_) ?_
    | with_reducible refine Need.mk (by first | with_reducible exact CEq.refl _ | omega | (simp only [decide_eq_true_eq, decide_eq_false_iff_not, Bool.or_eq_true, Bool.and_eq_true, Bool.or_eq_false_iff, Int.toNat_natCast, addN_eq, cond_false, cond_true, rng] at *; omega) | exact ⟨rfl, rfl⟩) ?_
    | (fail_if_success with_reducible refine LoopVC.mk ?_
       fail_if_success with_reducible refine Need.mk ?_ ?_
       fail_if_success with_reducible refine CallVC.mk ?_
       fail_if_success with_reducible refine LoopEnd.mk ?_
       fail_if_success with_reducible refine Out.mk ?_
       fail_if_success with_reducible show False
       fail_if_success with_reducible refine NeedI.mk ?_ ?_
       conv => whnf)
  · rename_i h3
    simp only [decide_eq_true_eq] at h3
    refine CallVC.mk' (fun _ => rread_ok K d i S (by omega)) (fun _ => .cons ((.many fun j hj => by (rcases (show j = 0 ∨ j = 1 by omega) with rfl | rfl <;> exact CEq.refl _))) (.cons (.one (CEq.refl _)) .nil)) ?_
    repeat' first
      | with_reducible refine NeedI.mk (fun h => h) ?_
      | with_reducible refine NeedI.mk (fun h => h.2) ?_
      | with_reducible refine NeedI.mk (fun h => h.1) ?_
      | with_reducible exact Done.mk
      | with_reducible refine Both.mk (fun _ => ?_) (fun _ => ?_)
      | with_reducible refine Both2.mk (fun _ => ?_) ?_
      | with_reducible refine Need.mk (by first | with_reducible exact CEq.refl _ | omega | (simp only [decide_eq_true_eq, decide_eq_false_iff_not, Bool.or_eq_true, Bool.and_eq_true, Bool.or_eq_false_iff, Int.toNat_natCast, addN_eq, cond_false, cond_true, rng] at *; omega) | exact ⟨rfl, rfl⟩) ?_
      | (fail_if_success with_reducible refine LoopVC.mk ?_
         fail_if_success with_reducible refine Need.mk ?_ ?_
         fail_if_success with_reducible refine CallVC.mk ?_
         fail_if_success with_reducible refine LoopEnd.mk ?_
         fail_if_success with_reducible refine Out.mk ?_
         fail_if_success with_reducible show False
         fail_if_success with_reducible refine NeedI.mk ?_ ?_
         conv => whnf)
    refine LoopEnd.mk ⟨i + 1, by omega, by omega, ?_⟩
    refine Le.of ⟨⟨rfl, rfl, rfl⟩, ⟨rfl, rfl, rfl⟩, ⟨rfl, rfl, rfl⟩, cI (by simp), trivial⟩
      ⟨⟨_, rfl, SubE.var2 (CEq.refl _) (CEq.refl _)⟩, ⟨_, rfl, SubE.var2 trivial trivial⟩, ⟨_, rfl, SubE.var2 ⟨rfl, rfl, rfl, rfl, rfl⟩ trivial⟩, ⟨_, rfl, SubE.dat fun r hr j hj => ?_⟩, trivial⟩
    have hj : j < 1 := hj
    rw [mapR_succ]
    refine appC_list (size := 1) (mapR_len _ _).symm (fun i _ j _ => CEq.refl _) (fun j hj => ?_) r (by rw [List.length_append, mapR_len]; exact hr) j hj
    obtain rfl : j = 0 := by omega
    exact CEq.refl _
  · rename_i h3
    simp only [decide_eq_false_iff_not] at h3
    obtain rfl : i = d.secs.length := by omega
    refine Out.mk (hQ _ _ ?_)
    repeat' first
      | with_reducible refine NeedI.mk (fun h => h) ?_
      | with_reducible refine NeedI.mk (fun h => h.2) ?_
      | with_reducible refine NeedI.mk (fun h => h.1) ?_
      | with_reducible exact Done.mk
      | with_reducible refine Both.mk (fun _ => ?_) (fun _ => ?_)
      | with_reducible refine Both2.mk (fun _ => ?_) ?_
      | with_reducible refine Need.mk (by with_reducible exact Nat.le_of_eq (Nat.zero_add _)) ?_
      | (fail_if_success with_reducible refine LoopVC.mk ?_
         fail_if_success with_reducible refine Need.mk ?_ ?_
         fail_if_success with_reducible refine CallVC.mk ?_
         fail_if_success with_reducible refine LoopEnd.mk ?_
         fail_if_success with_reducible refine Out.mk ?_
         fail_if_success with_reducible show False
         fail_if_success with_reducible refine NeedI.mk ?_ ?_
         conv => whnf)
    refine Need.mk (CEq.list (mapR_len _ _).symm fun k hk j hj => ?_) ?_
    · rw [addN_eq, Nat.zero_add]; exact CEq.refl _
    repeat' first
      | with_reducible refine NeedI.mk (fun h => h) ?_
      | with_reducible refine NeedI.mk (fun h => h.2) ?_
      | with_reducible refine NeedI.mk (fun h => h.1) ?_
      | with_reducible exact Done.mk
      | with_reducible refine Both.mk (fun _ => ?_) (fun _ => ?_)
      | with_reducible refine Both2.mk (fun _ => ?_) ?_
      | with_reducible refine Need.mk (by with_reducible exact Nat.le_of_eq (Nat.zero_add _)) ?_
      | (fail_if_success with_reducible refine LoopVC.mk ?_
         fail_if_success with_reducible refine Need.mk ?_ ?_
         fail_if_success with_reducible refine CallVC.mk ?_
         fail_if_success with_reducible refine LoopEnd.mk ?_
         fail_if_success with_reducible refine Out.mk ?_
         fail_if_success with_reducible show False
         fail_if_success with_reducible refine NeedI.mk ?_ ?_
         conv => whnf)
    refine Need.mk ceq_nil ?_
    repeat' first
      | with_reducible refine NeedI.mk (fun h => h) ?_
      | with_reducible refine NeedI.mk (fun h => h.2) ?_
      | with_reducible refine NeedI.mk (fun h => h.1) ?_
      | with_reducible exact Done.mk
      | with_reducible refine Both.mk (fun _ => ?_) (fun _ => ?_)
      | with_reducible refine Both2.mk (fun _ => ?_) ?_
      | with_reducible refine Need.mk (by with_reducible exact Nat.le_of_eq (Nat.zero_add _)) ?_
      | (fail_if_success with_reducible refine LoopVC.mk ?_
         fail_if_success with_reducible refine Need.mk ?_ ?_
         fail_if_success with_reducible refine CallVC.mk ?_
         fail_if_success with_reducible refine LoopEnd.mk ?_
         fail_if_success with_reducible refine Out.mk ?_
         fail_if_success with_reducible show False
         fail_if_success with_reducible refine NeedI.mk ?_ ?_
         conv => whnf)

end
end Lk.S03
