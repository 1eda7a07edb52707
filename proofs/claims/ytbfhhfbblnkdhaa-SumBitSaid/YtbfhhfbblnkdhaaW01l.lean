/-
  Chapter 1: SumBit.
-/
import Derived.Test.YtbfhhfbblnkdhaaW01k
namespace Lk.S01
open Go Lk Lk.C

set_option maxHeartbeats 8000000 in
set_option maxRecDepth 100000 in
theorem sumBit_law {P : Program} {F : Nat → Nat} (K : KSum P F) (ha : law01_awake_k P F) (hk : law01_SumBit_k P F) (s : List UInt8) (at_ : Int) (bit : UInt8) (h0 : 0 ≤ at_) (h1 : at_ ≤ 65535) :
    FnOk P (F 24) [.one (.str s), .one (.int .u16 at_), .one (.int .u8 (bit.toNat : Int))] [.one (.im (.bool true))] := by
  refine fnOk K.m hk ?_
  repeat' first
    | with_reducible refine NeedI.mk (fun h => h) ?_
    | with_reducible refine NeedI.mk (fun h => h.2) ?_
    | with_reducible refine NeedI.mk (fun h => h.1) ?_
    | with_reducible exact Done.mk
    | with_reducible refine Both.mk (fun _ => ?_) (fun _ => ?_)
    | with_reducible refine Both2.mk (fun _ => ?_) ?_
    | with_reducible refine Need.mk (by first | omega | with_reducible exact CEq.refl _ | (intro _; omega) | (simp only [decide_eq_true_eq, decide_eq_false_iff_not, Bool.or_eq_true, Bool.and_eq_true, Bool.or_eq_false_iff, Int.toNat_natCast, addN_eq, cond_false, cond_true, rng] at *; omega) | (intro _; simp only [decide_eq_true_eq, decide_eq_false_iff_not, Bool.or_eq_true, Bool.and_eq_true, Bool.or_eq_false_iff, Int.toNat_natCast, addN_eq, cond_false, cond_true, rng] at *; omega)) ?_
    | (fail_if_success with_reducible refine LoopVC.mk ?_
       fail_if_success with_reducible refine Need.mk ?_ ?_
       fail_if_success with_reducible refine CallVC.mk ?_
       fail_if_success with_reducible refine LoopEnd.mk ?_
       fail_if_success with_reducible refine Out.mk ?_
       fail_if_success with_reducible show False
       fail_if_success with_reducible refine NeedI.mk ?_ ?_
       conv => whnf)
  · refine CallVC.mk' (fun _ => awake_ok K ha) (fun _ => .nil) ?_
    repeat' first
      | with_reducible refine NeedI.mk (fun h => h) ?_
      | with_reducible refine NeedI.mk (fun h => h.2) ?_
      | with_reducible refine NeedI.mk (fun h => h.1) ?_
      | with_reducible exact Done.mk
      | with_reducible refine Both.mk (fun _ => ?_) (fun _ => ?_)
      | with_reducible refine Both2.mk (fun _ => ?_) ?_
      | with_reducible refine Need.mk (by first | omega | with_reducible exact CEq.refl _ | (intro _; omega) | (simp only [decide_eq_true_eq, decide_eq_false_iff_not, Bool.or_eq_true, Bool.and_eq_true, Bool.or_eq_false_iff, Int.toNat_natCast, addN_eq, cond_false, cond_true, rng] at *; omega) | (intro _; simp only [decide_eq_true_eq, decide_eq_false_iff_not, Bool.or_eq_true, Bool.and_eq_true, Bool.or_eq_false_iff, Int.toNat_natCast, addN_eq, cond_false, cond_true, rng] at *; omega)) ?_
      | (fail_if_success with_reducible refine LoopVC.mk ?_
         fail_if_success with_reducible refine Need.mk ?_ ?_
         fail_if_success with_reducible refine CallVC.mk ?_
         fail_if_success with_reducible refine LoopEnd.mk ?_
         fail_if_success with_reducible refine Out.mk ?_
         fail_if_success with_reducible show False
         fail_if_success with_reducible refine NeedI.mk ?_ ?_
         conv => whnf)
  rename_i h
  simp only [Bool.or_eq_false_iff, decide_eq_false_iff_not] at h
  have hs : s.length ≤ 300 := by omega
  have hp : 0 < s.length := by
    rcases Nat.eq_zero_or_pos s.length with h2 | h2
    · exact absurd (List.length_eq_zero_iff.1 h2) h.1
    · exact h2
  obtain ⟨r, hr⟩ : ∃ r : Nat, r = at_.toNat % s.length := ⟨_, rfl⟩
  have hrl : r < s.length := by rw [hr]; exact Nat.mod_lt _ hp
  have hri : at_ % (s.length : Int) = (r : Int) := by
    rw [hr]; push_cast; rw [Int.toNat_of_nonneg h0]
  have hbk := Nat.mod_lt bit.toNat (show 0 < 8 by omega)
  have hbi : (bit.toNat : Int) % 8 = ((bit.toNat % 8 : Nat) : Int) := by omega
  have g1 : rng .i64 at_ := by simp only [rng]; omega
  have g2 : 0 ≤ at_ % (s.length : Int) ∧ at_ % (s.length : Int) < (s.length : Int) := by rw [hri]; omega
  have g3 : addN 0 (at_ % (s.length : Int)).toNat < s.length := by rw [hri, addN_eq]; simp; exact hrl
  have g4 : 0 ≤ (bit.toNat : Int) % 8 := by omega
  have g6 : 0 ≤ (bit.toNat : Int) ∧ (0 : Int) < 8 := by omega
  have g5 : 0 ≤ at_ ∧ 0 < (s.length : Int) := by omega
  repeat' first
    | with_reducible refine NeedI.mk (fun h => h) ?_
    | with_reducible refine NeedI.mk (fun h => h.2) ?_
    | with_reducible refine NeedI.mk (fun h => h.1) ?_
    | with_reducible exact Done.mk
    | with_reducible refine Both.mk (fun _ => ?_) (fun _ => ?_)
    | with_reducible refine Both2.mk (fun _ => ?_) ?_
    | with_reducible refine Need.mk (by first | exact g1 | exact g2 | exact g5 | exact g6 | exact g3 | exact g4 | (simp only [rng]; omega)) ?_
    | (fail_if_success with_reducible refine LoopVC.mk ?_
       fail_if_success with_reducible refine Need.mk ?_ ?_
       fail_if_success with_reducible refine CallVC.mk ?_
       fail_if_success with_reducible refine LoopEnd.mk ?_
       fail_if_success with_reducible refine Out.mk ?_
       fail_if_success with_reducible show False
       fail_if_success with_reducible refine NeedI.mk ?_ ?_
       conv => whnf)
  refine CallVC.mk' (fun _ => table_ok K) (fun _ => .nil) ?_
  repeat' first
    | with_reducible refine NeedI.mk (fun h => h) ?_
    | with_reducible refine NeedI.mk (fun h => h.2) ?_
    | with_reducible refine NeedI.mk (fun h => h.1) ?_
    | with_reducible exact Done.mk
    | with_reducible refine Both.mk (fun _ => ?_) (fun _ => ?_)
    | with_reducible refine Both2.mk (fun _ => ?_) ?_
    | with_reducible refine Need.mk (by first | omega | with_reducible exact CEq.refl _ | (intro _; omega) | (simp only [decide_eq_true_eq, decide_eq_false_iff_not, Bool.or_eq_true, Bool.and_eq_true, Bool.or_eq_false_iff, Int.toNat_natCast, addN_eq, cond_false, cond_true, rng] at *; omega) | (intro _; simp only [decide_eq_true_eq, decide_eq_false_iff_not, Bool.or_eq_true, Bool.and_eq_true, Bool.or_eq_false_iff, Int.toNat_natCast, addN_eq, cond_false, cond_true, rng] at *; omega)) ?_
    | (fail_if_success with_reducible refine LoopVC.mk ?_
       fail_if_success with_reducible refine Need.mk ?_ ?_
       fail_if_success with_reducible refine CallVC.mk ?_
       fail_if_success with_reducible refine LoopEnd.mk ?_
       fail_if_success with_reducible refine Out.mk ?_
       fail_if_success with_reducible show False
       fail_if_success with_reducible refine NeedI.mk ?_ ?_
       conv => whnf)
  refine CallVC.mk' (fun _ => sum_ok K tabT s (by omega)) (fun _ => .cons (.one (CEq.refl _)) (.cons (.one (CEq.refl _)) .nil)) ?_
  repeat' first
    | with_reducible refine NeedI.mk (fun h => h) ?_
    | with_reducible refine NeedI.mk (fun h => h.2) ?_
    | with_reducible refine NeedI.mk (fun h => h.1) ?_
    | with_reducible exact Done.mk
    | with_reducible refine Both.mk (fun _ => ?_) (fun _ => ?_)
    | with_reducible refine Both2.mk (fun _ => ?_) ?_
    | with_reducible refine Need.mk (by with_reducible exact Nat.le_of_eq (Nat.zero_add _)) ?_
    | (fail_if_success with_reducible refine LoopVC.mk ?_
       fail_if_success with_reducible refine Need.mk ?_ ?_
       fail_if_success with_reducible refine CallVC.mk ?_
       fail_if_success with_reducible refine LoopEnd.mk ?_
       fail_if_success with_reducible refine Out.mk ?_
       fail_if_success with_reducible show False
       fail_if_success with_reducible refine NeedI.mk ?_ ?_
       conv => whnf)
  refine Need.mk (fun i hi => ?_) ?_
  · show isU8 (updC _ _ 0 _ _ 0)
    rw [updC_at]; split <;> exact True.intro
  repeat' first
    | with_reducible refine NeedI.mk (fun h => h) ?_
    | with_reducible refine NeedI.mk (fun h => h.2) ?_
    | with_reducible refine NeedI.mk (fun h => h.1) ?_
    | with_reducible exact Done.mk
    | with_reducible refine Both.mk (fun _ => ?_) (fun _ => ?_)
    | with_reducible refine Both2.mk (fun _ => ?_) ?_
    | with_reducible refine Need.mk (by first | omega | with_reducible exact CEq.refl _ | (intro _; omega) | (simp only [decide_eq_true_eq, decide_eq_false_iff_not, Bool.or_eq_true, Bool.and_eq_true, Bool.or_eq_false_iff, Int.toNat_natCast, addN_eq, cond_false, cond_true, rng] at *; omega) | (intro _; simp only [decide_eq_true_eq, decide_eq_false_iff_not, Bool.or_eq_true, Bool.and_eq_true, Bool.or_eq_false_iff, Int.toNat_natCast, addN_eq, cond_false, cond_true, rng] at *; omega)) ?_
    | (fail_if_success with_reducible refine LoopVC.mk ?_
       fail_if_success with_reducible refine Need.mk ?_ ?_
       fail_if_success with_reducible refine CallVC.mk ?_
       fail_if_success with_reducible refine LoopEnd.mk ?_
       fail_if_success with_reducible refine Out.mk ?_
       fail_if_success with_reducible show False
       fail_if_success with_reducible refine NeedI.mk ?_ ?_
       conv => whnf)
  have hb : bytesOf s.length (fun i => updC (fun i _ => Cell.int .u8 ((s.getD i 0).toNat : Int)) (addN 0 (at_ % (s.length : Int)).toNat) 0
      (.int .u8 (bitI .xor .u8 ((s.getD (addN 0 (at_ % (s.length : Int)).toNat) 0).toNat : Int) (shlI .u8 1 ((bit.toNat : Int) % 8)))) (addN 0 i) 0) = s.set r (turned (s.getD r 0) (bit.toNat % 8)) := by
    refine bytesOf_list (by simp) fun i hi => ?_
    rw [updC_at]
    simp only [addN_eq, Nat.zero_add]
    rw [hri, Int.toNat_natCast, hbi, turned_int _ hbk]
    rw [List.getD_eq_getElem?_getD (l := s.set _ _), List.getElem?_set]
    by_cases he : i = r
    · rw [if_pos ⟨he, trivial⟩, if_pos he.symm, if_pos (by omega)]; rfl
    · rw [if_neg (by rintro ⟨e, _⟩; exact he e), if_neg (Ne.symm he), ← List.getD_eq_getElem?_getD]
  refine CallVC.mk' (fun _ => sum_ok K tabT (s.set r (turned (s.getD r 0) (bit.toNat % 8))) (by simp; omega)) (fun _ => .cons (.one (CEq.refl _)) (.cons (.one (eS hb)) .nil)) ?_
  repeat' first
    | with_reducible refine NeedI.mk (fun h => h) ?_
    | with_reducible refine NeedI.mk (fun h => h.2) ?_
    | with_reducible refine NeedI.mk (fun h => h.1) ?_
    | with_reducible exact Done.mk
    | with_reducible refine Both.mk (fun _ => ?_) (fun _ => ?_)
    | with_reducible refine Both2.mk (fun _ => ?_) ?_
    | with_reducible refine Need.mk (by first | omega | with_reducible exact CEq.refl _ | (intro _; omega) | (simp only [decide_eq_true_eq, decide_eq_false_iff_not, Bool.or_eq_true, Bool.and_eq_true, Bool.or_eq_false_iff, Int.toNat_natCast, addN_eq, cond_false, cond_true, rng] at *; omega) | (intro _; simp only [decide_eq_true_eq, decide_eq_false_iff_not, Bool.or_eq_true, Bool.and_eq_true, Bool.or_eq_false_iff, Int.toNat_natCast, addN_eq, cond_false, cond_true, rng] at *; omega)) ?_
    | (fail_if_success with_reducible refine LoopVC.mk ?_
       fail_if_success with_reducible refine Need.mk ?_ ?_
       fail_if_success with_reducible refine CallVC.mk ?_
       fail_if_success with_reducible refine LoopEnd.mk ?_
       fail_if_success with_reducible refine Out.mk ?_
       fail_if_success with_reducible show False
       fail_if_success with_reducible refine NeedI.mk ?_ ?_
       conv => whnf)
  refine CallVC.mk' (fun _ => awake_ok K ha) (fun _ => .nil) ?_
  repeat' first
    | with_reducible refine NeedI.mk (fun h => h) ?_
    | with_reducible refine NeedI.mk (fun h => h.2) ?_
    | with_reducible refine NeedI.mk (fun h => h.1) ?_
    | with_reducible exact Done.mk
    | with_reducible refine Both.mk (fun _ => ?_) (fun _ => ?_)
    | with_reducible refine Both2.mk (fun _ => ?_) ?_
    | with_reducible refine Need.mk (by first | omega | with_reducible exact CEq.refl _ | (intro _; omega) | (simp only [decide_eq_true_eq, decide_eq_false_iff_not, Bool.or_eq_true, Bool.and_eq_true, Bool.or_eq_false_iff, Int.toNat_natCast, addN_eq, cond_false, cond_true, rng] at *; omega) | (intro _; simp only [decide_eq_true_eq, decide_eq_false_iff_not, Bool.or_eq_true, Bool.and_eq_true, Bool.or_eq_false_iff, Int.toNat_natCast, addN_eq, cond_false, cond_true, rng] at *; omega)) ?_
    | (fail_if_success with_reducible refine LoopVC.mk ?_
       fail_if_success with_reducible refine Need.mk ?_ ?_
       fail_if_success with_reducible refine CallVC.mk ?_
       fail_if_success with_reducible refine LoopEnd.mk ?_
       fail_if_success with_reducible refine Out.mk ?_
       fail_if_success with_reducible show False
       fail_if_success with_reducible refine NeedI.mk ?_ ?_
       conv => whnf)
  refine Need.mk (eB ?_) ?_
  · have h2 : ¬ (((~~~ sumS tabT s).toNat : Int) = ((~~~ sumS tabT (s.set r (turned (s.getD r 0) (bit.toNat % 8)))).toNat : Int)) := by
      intro he
      rw [sum_ref, sum_ref] at he
      have h3 : ~~~ refS s = ~~~ refS (s.set r (turned (s.getD r 0) (bit.toNat % 8))) := BitVec.eq_of_toNat_eq (by omega)
      have h4 := BitVec.not_inj.1 h3
      exact turned_ne _ hbk (refS_set hrl h4.symm)
    have h3 := (~~~ sumS tabT s).isLt
    have h4 : ((~~~ sumS tabT s).toNat : Int) < 4294967296 := by omega
    rw [decide_eq_false h2, decide_eq_true h4, decide_eq_true (show (0 : Int) ≤ ((~~~ sumS tabT s).toNat : Int) by omega)]; rfl
  · repeat' first
      | with_reducible refine NeedI.mk (fun h => h) ?_
      | with_reducible refine NeedI.mk (fun h => h.2) ?_
      | with_reducible refine NeedI.mk (fun h => h.1) ?_
      | with_reducible exact Done.mk
      | with_reducible refine Both.mk (fun _ => ?_) (fun _ => ?_)
      | with_reducible refine Both2.mk (fun _ => ?_) ?_
      | with_reducible refine Need.mk (by first | omega | with_reducible exact CEq.refl _ | (intro _; omega) | (simp only [decide_eq_true_eq, decide_eq_false_iff_not, Bool.or_eq_true, Bool.and_eq_true, Bool.or_eq_false_iff, Int.toNat_natCast, addN_eq, cond_false, cond_true, rng] at *; omega) | (intro _; simp only [decide_eq_true_eq, decide_eq_false_iff_not, Bool.or_eq_true, Bool.and_eq_true, Bool.or_eq_false_iff, Int.toNat_natCast, addN_eq, cond_false, cond_true, rng] at *; omega)) ?_
      | (fail_if_success with_reducible refine LoopVC.mk ?_
         fail_if_success with_reducible refine Need.mk ?_ ?_
         fail_if_success with_reducible refine CallVC.mk ?_
         fail_if_success with_reducible refine LoopEnd.mk ?_
         fail_if_success with_reducible refine Out.mk ?_
         fail_if_success with_reducible show False
         fail_if_success with_reducible refine NeedI.mk ?_ ?_
         conv => whnf)
end Lk.S01
