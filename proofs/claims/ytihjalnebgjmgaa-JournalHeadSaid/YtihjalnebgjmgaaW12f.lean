/-
  Chapter 12: the reference's functions.
-/
import Derived.Test.YtihjalnebgjmgaaW12e
import Derived.Test.YtihjalnebgjmgaaW03f
namespace Lk.S12
open Go Lk Lk.C Lk.S03

structure KR12 (P : Program) (F : Nat → Nat) : Prop where
  r : KRef P F
  may : ref12_May_k P F
  get : ref12_Get_k P F
  plan : ref12_Plan_k P F
  same : ref12_Same_k P F
  run : ref12_Run_k P F
  at_ : ref12_at_k P F
  filled : ref12_filled_k P F

section
variable {P : Program} {F : Nat → Nat}

set_option maxHeartbeats 8000000 in
set_option maxRecDepth 100000 in
theorem may_ok (R : KR12 P F) (d : Dsk) (W : EDsk.wf d) : FnOk P (F 100) [.many 2 (dskE d)] [.one (.im (.bool (decide (usable d))))] := by
  refine fnOk R.r.m R.may ?_
  repeat' first
    | with_reducible refine NeedI.mk (fun h => h) ?_
    | with_reducible refine NeedI.mk (fun h => h.2) ?_
    | with_reducible refine NeedI.mk (fun h => h.1) ?_
    | with_reducible exact Done.mk
    | with_reducible refine Both.mk (fun _ => ?_) (fun _ => ?_)
    | with_reducible refine Both2.mk (fun _ => ?_) ?_
    | with_reducible refine Need.mk (by first | omega | with_reducible exact CEq.refl _) ?_
    | (fail_if_success with_reducible refine LoopVC.mk ?_
       fail_if_success with_reducible refine Need.mk ?_ ?_
       fail_if_success with_reducible refine CallVC.mk ?_
       fail_if_success with_reducible refine LoopEnd.mk ?_
       fail_if_success with_reducible refine Out.mk ?_
       fail_if_success with_reducible show False
       fail_if_success with_reducible refine NeedI.mk ?_ ?_
       conv => whnf)
  refine CallVC.mk' (fun _ => rright_ok R.r d W) (fun _ => .cons ((.many fun j hj => by (rcases (show j = 0 ∨ j = 1 by omega) with rfl | rfl <;> exact CEq.refl _))) .nil) ?_
  have := W.1
  repeat' first
    | with_reducible refine NeedI.mk (fun h => h) ?_
    | with_reducible refine NeedI.mk (fun h => h.2) ?_
    | with_reducible refine NeedI.mk (fun h => h.1) ?_
    | with_reducible exact Done.mk
    | with_reducible refine Both.mk (fun _ => ?_) (fun _ => ?_)
    | with_reducible refine Both2.mk (fun _ => ?_) ?_
    | with_reducible refine Need.mk (by first | omega | with_reducible exact CEq.refl _) ?_
    | (fail_if_success with_reducible refine LoopVC.mk ?_
       fail_if_success with_reducible refine Need.mk ?_ ?_
       fail_if_success with_reducible refine CallVC.mk ?_
       fail_if_success with_reducible refine LoopEnd.mk ?_
       fail_if_success with_reducible refine Out.mk ?_
       fail_if_success with_reducible show False
       fail_if_success with_reducible refine NeedI.mk ?_ ?_
       conv => whnf)
  refine Need.mk (eB ?_) ?_
  · rw [Bool.eq_iff_iff]; simp only [Bool.and_eq_true, decide_eq_true_eq]; exact ⟨fun ⟨a, b⟩ => ⟨a, by omega⟩, fun ⟨a, b⟩ => ⟨a, by omega⟩⟩
  repeat' first
    | with_reducible refine NeedI.mk (fun h => h) ?_
    | with_reducible refine NeedI.mk (fun h => h.2) ?_
    | with_reducible refine NeedI.mk (fun h => h.1) ?_
    | with_reducible exact Done.mk
    | with_reducible refine Both.mk (fun _ => ?_) (fun _ => ?_)
    | with_reducible refine Both2.mk (fun _ => ?_) ?_
    | with_reducible refine Need.mk (by with_reducible exact Nat.le_of_eq (Nat.zero_add _)) ?_
    | (fail_if_success with_reducible refine LoopVC.mk ?_
       fail_if_success with_reducible refine Need.mk ?_ ?_
       fail_if_success with_reducible refine CallVC.mk ?_
       fail_if_success with_reducible refine LoopEnd.mk ?_
       fail_if_success with_reducible refine Out.mk ?_
       fail_if_success with_reducible show False
       fail_if_success with_reducible refine NeedI.mk ?_ ?_
       conv => whnf)

set_option maxHeartbeats 8000000 in
set_option maxRecDepth 100000 in
theorem rget_ok (R : KR12 P F) (d : Dsk) (n : Nat) (hu : usable d) (h1 : 1 ≤ n) (h2 : n ≤ 16) : FnOk P (F 101) [.many 2 (dskE d), .one (.int .i64 n)] [.one (.im (.str (getS d n)))] := by
  refine fnOk R.r.m R.get ?_
  have S := hu.1.small
  have hn := hu.2
  repeat' first
    | with_reducible refine NeedI.mk (fun h => h) ?_
    | with_reducible refine NeedI.mk (fun h => h.2) ?_
    | with_reducible refine NeedI.mk (fun h => h.1) ?_
    | with_reducible exact Done.mk
    | with_reducible refine Both.mk (fun _ => ?_) (fun _ => ?_)
    | with_reducible refine Both2.mk (fun _ => ?_) ?_
    | with_reducible refine Need.mk (by first | omega | with_reducible exact CEq.refl _ | (simp only [rng]; omega)) ?_
    | (fail_if_success with_reducible refine LoopVC.mk ?_
       fail_if_success with_reducible refine Need.mk ?_ ?_
       fail_if_success with_reducible refine CallVC.mk ?_
       fail_if_success with_reducible refine LoopEnd.mk ?_
       fail_if_success with_reducible refine Out.mk ?_
       fail_if_success with_reducible show False
       fail_if_success with_reducible refine NeedI.mk ?_ ?_
       conv => whnf)
  refine CallVC.mk' (fun _ => rread_ok R.r d (2 * n + 1) S (by omega)) (fun _ => .cons ((.many fun j hj => by (rcases (show j = 0 ∨ j = 1 by omega) with rfl | rfl <;> exact CEq.refl _))) (.cons (.one (eI (by push_cast; rfl))) .nil)) ?_
  repeat' first
    | with_reducible refine NeedI.mk (fun h => h) ?_
    | with_reducible refine NeedI.mk (fun h => h.2) ?_
    | with_reducible refine NeedI.mk (fun h => h.1) ?_
    | with_reducible exact Done.mk
    | with_reducible refine Both.mk (fun _ => ?_) (fun _ => ?_)
    | with_reducible refine Both2.mk (fun _ => ?_) ?_
    | with_reducible refine Need.mk (by first | omega | with_reducible exact CEq.refl _ | (simp only [rng]; omega)) ?_
    | (fail_if_success with_reducible refine LoopVC.mk ?_
       fail_if_success with_reducible refine Need.mk ?_ ?_
       fail_if_success with_reducible refine CallVC.mk ?_
       fail_if_success with_reducible refine LoopEnd.mk ?_
       fail_if_success with_reducible refine Out.mk ?_
       fail_if_success with_reducible show False
       fail_if_success with_reducible refine NeedI.mk ?_ ?_
       conv => whnf)
  refine CallVC.mk' (fun _ => rread_ok R.r d (2 * n + 2) S (by omega)) (fun _ => .cons ((.many fun j hj => by (rcases (show j = 0 ∨ j = 1 by omega) with rfl | rfl <;> exact CEq.refl _))) (.cons (.one (eI (by push_cast; rfl))) .nil)) ?_
  have l1 := read_len (i := 2 * n + 1) hu.1 (by omega)
  have l2 := read_len (i := 2 * n + 2) hu.1 (by omega)
  repeat' first
    | with_reducible refine NeedI.mk (fun h => h) ?_
    | with_reducible refine NeedI.mk (fun h => h.2) ?_
    | with_reducible refine NeedI.mk (fun h => h.1) ?_
    | with_reducible exact Done.mk
    | with_reducible refine Both.mk (fun _ => ?_) (fun _ => ?_)
    | with_reducible refine Both2.mk (fun _ => ?_) ?_
    | with_reducible refine Need.mk (by first | omega | with_reducible exact CEq.refl _ | (simp only [rng]; omega)) ?_
    | ((with_reducible refine Need.mk ?_ ?_); exact CEq.refl _)
    | (fail_if_success with_reducible refine LoopVC.mk ?_
       fail_if_success with_reducible refine Need.mk ?_ ?_
       fail_if_success with_reducible refine CallVC.mk ?_
       fail_if_success with_reducible refine LoopEnd.mk ?_
       fail_if_success with_reducible refine Out.mk ?_
       fail_if_success with_reducible show False
       fail_if_success with_reducible refine NeedI.mk ?_ ?_
       conv => whnf)

set_option maxHeartbeats 8000000 in
set_option maxRecDepth 100000 in
theorem rat_ok (R : KR12 P F) (n : Int) (s : List UInt8) : FnOk P (F 123) [.one (.int .i64 n), .one (.str s)] [.many 3 (fun j => .im (opE ⟨false, ⟨n, s⟩⟩ j))] := by
  refine fnOk R.r.m R.at_ ?_
  repeat' first
    | with_reducible refine NeedI.mk (fun h => h) ?_
    | with_reducible refine NeedI.mk (fun h => h.2) ?_
    | with_reducible refine NeedI.mk (fun h => h.1) ?_
    | with_reducible exact Done.mk
    | with_reducible refine Both.mk (fun _ => ?_) (fun _ => ?_)
    | with_reducible refine Both2.mk (fun _ => ?_) ?_
    | with_reducible refine Need.mk (by first | omega | with_reducible exact CEq.refl _) ?_
    | ((with_reducible refine Need.mk ?_ ?_); exact CEq.refl _)
    | (fail_if_success with_reducible refine LoopVC.mk ?_
       fail_if_success with_reducible refine Need.mk ?_ ?_
       fail_if_success with_reducible refine CallVC.mk ?_
       fail_if_success with_reducible refine LoopEnd.mk ?_
       fail_if_success with_reducible refine Out.mk ?_
       fail_if_success with_reducible show False
       fail_if_success with_reducible refine NeedI.mk ?_ ?_
       conv => whnf)

theorem rep_snoc (i : Nat) : List.replicate i (0 : UInt8) ++ [0] = List.replicate (i + 1) 0 := by
  rw [List.replicate_succ']

set_option maxHeartbeats 8000000 in
set_option maxRecDepth 100000 in
theorem rfilled_ok (R : KR12 P F) (s : List UInt8) (h : s.length ≤ 16) : FnOk P (F 124) [.one (.str s)] [.one (.im (.str (s ++ List.replicate (16 - s.length) 0)))] := by
  refine fnOk R.r.m R.filled ?_
  repeat' first
    | with_reducible refine NeedI.mk (fun h => h) ?_
    | with_reducible refine NeedI.mk (fun h => h.2) ?_
    | with_reducible refine NeedI.mk (fun h => h.1) ?_
    | with_reducible exact Done.mk
    | with_reducible refine Both.mk (fun _ => ?_) (fun _ => ?_)
    | with_reducible refine Both2.mk (fun _ => ?_) ?_
    | with_reducible refine Need.mk (by first | omega | with_reducible exact CEq.refl _) ?_
    | (fail_if_success with_reducible refine LoopVC.mk ?_
       fail_if_success with_reducible refine Need.mk ?_ ?_
       fail_if_success with_reducible refine CallVC.mk ?_
       fail_if_success with_reducible refine LoopEnd.mk ?_
       fail_if_success with_reducible refine Out.mk ?_
       fail_if_success with_reducible show False
       fail_if_success with_reducible refine NeedI.mk ?_ ?_
       conv => whnf)
  refine LoopVC.inv (fun i : Nat => s.length + i ≤ 16) (fun i => stL [(0, .c (.str (s ++ List.replicate i 0)))] []) (fun i => 16 - i) 0 h (Le.of ⟨cS (by simp), trivial⟩ trivial) ?_
  rintro Q hQ i hi
  have hlen : (s ++ List.replicate i (0 : UInt8)).length = s.length + i := by simp
  repeat' first
    | with_reducible refine NeedI.mk (fun h => h) ?_
    | with_reducible refine NeedI.mk (fun h => h.2) ?_
    | with_reducible refine NeedI.mk (fun h => h.1) ?_
    | with_reducible exact Done.mk
    | with_reducible refine Both.mk (fun _ => ?_) (fun _ => ?_)
    | with_reducible refine Both2.mk (fun _ => ?_) ?_
    | with_reducible refine Need.mk (by first | omega | with_reducible exact CEq.refl _) ?_
    | (fail_if_success with_reducible refine LoopVC.mk ?_
       fail_if_success with_reducible refine Need.mk ?_ ?_
       fail_if_success with_reducible refine CallVC.mk ?_
       fail_if_success with_reducible refine LoopEnd.mk ?_
       fail_if_success with_reducible refine Out.mk ?_
       fail_if_success with_reducible show False
       fail_if_success with_reducible refine NeedI.mk ?_ ?_
       conv => whnf)
  · rename_i h3
    have h3 : ((s ++ List.replicate i (0 : UInt8)).length : Int) < 16 := of_decide_eq_true h3
    refine Need.mk (Nat.le_refl _) ?_
    repeat' first
      | with_reducible refine NeedI.mk (fun h => h) ?_
      | with_reducible refine NeedI.mk (fun h => h.2) ?_
      | with_reducible refine NeedI.mk (fun h => h.1) ?_
      | with_reducible exact Done.mk
      | with_reducible refine Both.mk (fun _ => ?_) (fun _ => ?_)
      | with_reducible refine Both2.mk (fun _ => ?_) ?_
      | with_reducible refine Need.mk (by first | omega | with_reducible exact CEq.refl _ | (dsimp only; omega) | (dsimp only [rng]; omega) | (simp only [decide_eq_true_eq, decide_eq_false_iff_not, Bool.or_eq_true, Bool.and_eq_true, Bool.or_eq_false_iff, Int.toNat_natCast, addN_eq, cond_false, cond_true, rng] at *; omega) | exact ⟨rfl, rfl⟩) ?_
      | ((with_reducible refine Need.mk ?_ ?_); exact CEq.refl _)
      | (fail_if_success with_reducible refine LoopVC.mk ?_
         fail_if_success with_reducible refine Need.mk ?_ ?_
         fail_if_success with_reducible refine CallVC.mk ?_
         fail_if_success with_reducible refine LoopEnd.mk ?_
         fail_if_success with_reducible refine Out.mk ?_
         fail_if_success with_reducible show False
         fail_if_success with_reducible refine NeedI.mk ?_ ?_
         conv => whnf)
    refine Need.mk (fun k hk => by (obtain rfl : k = 0 := (by have hk : k < 1 := hk; omega)); exact trivial) ?_
    repeat' first
      | with_reducible refine NeedI.mk (fun h => h) ?_
      | with_reducible refine NeedI.mk (fun h => h.2) ?_
      | with_reducible refine NeedI.mk (fun h => h.1) ?_
      | with_reducible exact Done.mk
      | with_reducible refine Both.mk (fun _ => ?_) (fun _ => ?_)
      | with_reducible refine Both2.mk (fun _ => ?_) ?_
      | with_reducible refine Need.mk (by first | omega | with_reducible exact CEq.refl _ | (dsimp only; omega) | (dsimp only [rng]; omega) | (simp only [decide_eq_true_eq, decide_eq_false_iff_not, Bool.or_eq_true, Bool.and_eq_true, Bool.or_eq_false_iff, Int.toNat_natCast, addN_eq, cond_false, cond_true, rng] at *; omega) | exact ⟨rfl, rfl⟩) ?_
      | ((with_reducible refine Need.mk ?_ ?_); exact CEq.refl _)
      | (fail_if_success with_reducible refine LoopVC.mk ?_
         fail_if_success with_reducible refine Need.mk ?_ ?_
         fail_if_success with_reducible refine CallVC.mk ?_
         fail_if_success with_reducible refine LoopEnd.mk ?_
         fail_if_success with_reducible refine Out.mk ?_
         fail_if_success with_reducible show False
         fail_if_success with_reducible refine NeedI.mk ?_ ?_
         conv => whnf)
    refine Need.mk (by show (s ++ List.replicate i (0 : UInt8)).length + 1 ≤ 1000000000000; omega) ?_
    repeat' first
      | with_reducible refine NeedI.mk (fun h => h) ?_
      | with_reducible refine NeedI.mk (fun h => h.2) ?_
      | with_reducible refine NeedI.mk (fun h => h.1) ?_
      | with_reducible exact Done.mk
      | with_reducible refine Both.mk (fun _ => ?_) (fun _ => ?_)
      | with_reducible refine Both2.mk (fun _ => ?_) ?_
      | with_reducible refine Need.mk (by first | omega | with_reducible exact CEq.refl _ | (dsimp only; omega) | (dsimp only [rng]; omega) | (simp only [decide_eq_true_eq, decide_eq_false_iff_not, Bool.or_eq_true, Bool.and_eq_true, Bool.or_eq_false_iff, Int.toNat_natCast, addN_eq, cond_false, cond_true, rng] at *; omega) | exact ⟨rfl, rfl⟩) ?_
      | ((with_reducible refine Need.mk ?_ ?_); exact CEq.refl _)
      | (fail_if_success with_reducible refine LoopVC.mk ?_
         fail_if_success with_reducible refine Need.mk ?_ ?_
         fail_if_success with_reducible refine CallVC.mk ?_
         fail_if_success with_reducible refine LoopEnd.mk ?_
         fail_if_success with_reducible refine Out.mk ?_
         fail_if_success with_reducible show False
         fail_if_success with_reducible refine NeedI.mk ?_ ?_
         conv => whnf)
    refine LoopEnd.mk ⟨i + 1, by omega, by omega, Le.of ⟨cS ?_, trivial⟩ trivial⟩
    rw [← rep_snoc, ← List.append_assoc]; rfl
  · rename_i h3
    have h3 : ¬ ((s ++ List.replicate i (0 : UInt8)).length : Int) < 16 := of_decide_eq_false h3
    refine Out.mk (hQ _ _ ?_)
    obtain rfl : i = 16 - s.length := by omega
    repeat' first
      | with_reducible refine NeedI.mk (fun h => h) ?_
      | with_reducible refine NeedI.mk (fun h => h.2) ?_
      | with_reducible refine NeedI.mk (fun h => h.1) ?_
      | with_reducible exact Done.mk
      | with_reducible refine Both.mk (fun _ => ?_) (fun _ => ?_)
      | with_reducible refine Both2.mk (fun _ => ?_) ?_
      | with_reducible refine Need.mk (by with_reducible exact CEq.refl _) ?_
      | (fail_if_success with_reducible refine LoopVC.mk ?_
         fail_if_success with_reducible refine Need.mk ?_ ?_
         fail_if_success with_reducible refine CallVC.mk ?_
         fail_if_success with_reducible refine LoopEnd.mk ?_
         fail_if_success with_reducible refine Out.mk ?_
         fail_if_success with_reducible show False
         fail_if_success with_reducible refine NeedI.mk ?_ ?_
         conv => whnf)

end
end Lk.S12
