/-
  Chapter 3: the law's awake; DiskNew.
-/
import Derived.Test.YtihjalnebgjmgaaW03c
namespace Lk.S03
open Go Lk Lk.C

section
variable {P : Program} {F : Nat → Nat}

structure KLaw (P : Program) (F : Nat → Nat) : Prop where
  k : KDisk P F
  awake : law03_awake_k P F
  rd : ∀ (d : Dsk) (at_ : Int), Small d → FnOk P (F 37) [.many 2 (dskE d), .one (.int .i64 at_)] [.one (.im (.str (d.rd at_).1)), .one (.im (.int .i64 (d.rd at_).2))]

def zs : List UInt8 := List.replicate 16 0
def dg : List UInt8 := [48, 49, 50, 51, 52, 53, 54, 55, 56, 57, 97, 98, 99, 100, 101, 102]
def d0 : Dsk := ⟨[zs, zs], []⟩
def d1 : Dsk := ⟨[zs, zs], [⟨1, dg⟩]⟩
theorem d0_new : newD 2 = d0 := by decide +kernel
theorem d0_newE : newE 2 = 0 := by decide +kernel
theorem d1_put : d0.put ⟨1, dg⟩ = d1 := by decide +kernel
theorem d1_putE : d0.putE ⟨1, dg⟩ = 0 := by decide +kernel
theorem d1_rd : d1.rd 1 = (dg, 0) := by decide +kernel
theorem d1_crash : d1.crash [] = d0 := by decide +kernel
theorem d0_rd : d0.rd 1 = (zs, 0) := by decide +kernel
theorem d1_right : decide (right d1) = true := by decide +kernel
theorem small0 : Small d0 := ⟨by decide, by decide, by decide +kernel, by decide +kernel⟩
theorem small1 : Small d1 := ⟨by decide, by decide, by decide +kernel, by decide +kernel⟩

set_option maxHeartbeats 8000000 in
set_option maxRecDepth 100000 in
theorem awake_ok (L : KLaw P F) : FnOk P (F 29) [] [.one (.im (.bool true))] := by
  refine fnOk L.k.m L.awake ?_
  have K := L.k
  repeat' first
    | with_reducible refine NeedI.mk (fun h => h) ?_
    | with_reducible refine NeedI.mk (fun h => h.2) ?_
    | with_reducible refine NeedI.mk (fun h => h.1) ?_
    | with_reducible exact Done.mk
    | with_reducible refine Both.mk (fun _ => ?_) (fun _ => ?_)
    | with_reducible refine Both2.mk (fun _ => ?_) ?_
    | with_reducible refine Need.mk (by with_reducible exact Nat.le_of_eq (Nat.zero_add _)) ?_
    | (fail_if_success with_reducible refine LoopVC.mk ?_
       fail_if_success with_reducible refine Need.mk ?_ ?_
       fail_if_success with_reducible refine CallVC.mk ?_
       fail_if_success with_reducible refine LoopEnd.mk ?_
       fail_if_success with_reducible refine Out.mk ?_
       fail_if_success with_reducible show False
       fail_if_success with_reducible refine NeedI.mk ?_ ?_
       conv => whnf)
  refine CallVC.mk' (fun _ => new_ok K.m K.new 2 K.rep) (fun _ => .cons (.one (CEq.refl _)) .nil) ?_
  rw [d0_new, d0_newE]
  repeat' first
    | with_reducible refine NeedI.mk (fun h => h) ?_
    | with_reducible refine NeedI.mk (fun h => h.2) ?_
    | with_reducible refine NeedI.mk (fun h => h.1) ?_
    | with_reducible exact Done.mk
    | with_reducible refine Both.mk (fun _ => ?_) (fun _ => ?_)
    | with_reducible refine Both2.mk (fun _ => ?_) ?_
    | with_reducible refine Need.mk (by with_reducible exact Nat.le_of_eq (Nat.zero_add _)) ?_
    | (fail_if_success with_reducible refine LoopVC.mk ?_
       fail_if_success with_reducible refine Need.mk ?_ ?_
       fail_if_success with_reducible refine CallVC.mk ?_
       fail_if_success with_reducible refine LoopEnd.mk ?_
       fail_if_success with_reducible refine Out.mk ?_
       fail_if_success with_reducible show False
       fail_if_success with_reducible refine NeedI.mk ?_ ?_
       conv => whnf)
  refine CallVC.mk' (fun _ => put_ok K.m K.put K.right K.fits K.cloneW d0 ⟨1, dg⟩ small0.s small0.c small0.ls small0.lc (by decide)) (fun _ => .cons ((.many fun j hj => by (rcases (show j = 0 ∨ j = 1 by omega) with rfl | rfl <;> exact CEq.refl _))) (.cons ((.many fun j hj => by (rcases (show j = 0 ∨ j = 1 by omega) with rfl | rfl <;> exact CEq.refl _))) .nil)) ?_
  rw [d1_put, d1_putE]
  repeat' first
    | with_reducible refine NeedI.mk (fun h => h) ?_
    | with_reducible refine NeedI.mk (fun h => h.2) ?_
    | with_reducible refine NeedI.mk (fun h => h.1) ?_
    | with_reducible exact Done.mk
    | with_reducible refine Both.mk (fun _ => ?_) (fun _ => ?_)
    | with_reducible refine Both2.mk (fun _ => ?_) ?_
    | with_reducible refine Need.mk (by with_reducible exact Nat.le_of_eq (Nat.zero_add _)) ?_
    | (fail_if_success with_reducible refine LoopVC.mk ?_
       fail_if_success with_reducible refine Need.mk ?_ ?_
       fail_if_success with_reducible refine CallVC.mk ?_
       fail_if_success with_reducible refine LoopEnd.mk ?_
       fail_if_success with_reducible refine Out.mk ?_
       fail_if_success with_reducible show False
       fail_if_success with_reducible refine NeedI.mk ?_ ?_
       conv => whnf)
  refine CallVC.mk' (fun _ => L.rd d1 1 small1) (fun _ => .cons ((.many fun j hj => by (rcases (show j = 0 ∨ j = 1 by omega) with rfl | rfl <;> exact CEq.refl _))) (.cons (.one (CEq.refl _)) .nil)) ?_
  rw [d1_rd]
  repeat' first
    | with_reducible refine NeedI.mk (fun h => h) ?_
    | with_reducible refine NeedI.mk (fun h => h.2) ?_
    | with_reducible refine NeedI.mk (fun h => h.1) ?_
    | with_reducible exact Done.mk
    | with_reducible refine Both.mk (fun _ => ?_) (fun _ => ?_)
    | with_reducible refine Both2.mk (fun _ => ?_) ?_
    | with_reducible refine Need.mk (by with_reducible exact Nat.le_of_eq (Nat.zero_add _)) ?_
    | (fail_if_success with_reducible refine LoopVC.mk ?_
       fail_if_success with_reducible refine Need.mk ?_ ?_
       fail_if_success with_reducible refine CallVC.mk ?_
       fail_if_success with_reducible refine LoopEnd.mk ?_
       fail_if_success with_reducible refine Out.mk ?_
       fail_if_success with_reducible show False
       fail_if_success with_reducible refine NeedI.mk ?_ ?_
       conv => whnf)
  refine CallVC.mk' (fun _ => crash_ok K d1 [] small1 (by decide)) (fun _ => .cons ((.many fun j hj => by (rcases (show j = 0 ∨ j = 1 by omega) with rfl | rfl <;> exact CEq.refl _))) (.cons (.one ceq_nil) .nil)) ?_
  rw [d1_crash]
  repeat' first
    | with_reducible refine NeedI.mk (fun h => h) ?_
    | with_reducible refine NeedI.mk (fun h => h.2) ?_
    | with_reducible refine NeedI.mk (fun h => h.1) ?_
    | with_reducible exact Done.mk
    | with_reducible refine Both.mk (fun _ => ?_) (fun _ => ?_)
    | with_reducible refine Both2.mk (fun _ => ?_) ?_
    | with_reducible refine Need.mk (by with_reducible exact Nat.le_of_eq (Nat.zero_add _)) ?_
    | (fail_if_success with_reducible refine LoopVC.mk ?_
       fail_if_success with_reducible refine Need.mk ?_ ?_
       fail_if_success with_reducible refine CallVC.mk ?_
       fail_if_success with_reducible refine LoopEnd.mk ?_
       fail_if_success with_reducible refine Out.mk ?_
       fail_if_success with_reducible show False
       fail_if_success with_reducible refine NeedI.mk ?_ ?_
       conv => whnf)
  refine CallVC.mk' (fun _ => L.rd d0 1 small0) (fun _ => .cons ((.many fun j hj => by (rcases (show j = 0 ∨ j = 1 by omega) with rfl | rfl <;> exact CEq.refl _))) (.cons (.one (CEq.refl _)) .nil)) ?_
  rw [d0_rd]
  repeat' first
    | with_reducible refine NeedI.mk (fun h => h) ?_
    | with_reducible refine NeedI.mk (fun h => h.2) ?_
    | with_reducible refine NeedI.mk (fun h => h.1) ?_
    | with_reducible exact Done.mk
    | with_reducible refine Both.mk (fun _ => ?_) (fun _ => ?_)
    | with_reducible refine Both2.mk (fun _ => ?_) ?_
    | with_reducible refine Need.mk (by first | omega | with_reducible exact CEq.refl _) ?_
    | (fail_if_success with_reducible refine LoopVC.mk ?_
       fail_if_success with_reducible refine Need.mk ?_ ?_
       fail_if_success with_reducible refine CallVC.mk ?_
       fail_if_success with_reducible refine LoopEnd.mk ?_
       fail_if_success with_reducible refine Out.mk ?_
       fail_if_success with_reducible show False
       fail_if_success with_reducible refine NeedI.mk ?_ ?_
       conv => whnf)
  refine Need.mk (fun _ => by decide) ?_
  repeat' first
    | with_reducible refine NeedI.mk (fun h => h) ?_
    | with_reducible refine NeedI.mk (fun h => h.2) ?_
    | with_reducible refine NeedI.mk (fun h => h.1) ?_
    | with_reducible exact Done.mk
    | with_reducible refine Both.mk (fun _ => ?_) (fun _ => ?_)
    | with_reducible refine Both2.mk (fun _ => ?_) ?_
    | with_reducible refine Need.mk (by with_reducible exact Nat.le_of_eq (Nat.zero_add _)) ?_
    | (fail_if_success with_reducible refine LoopVC.mk ?_
       fail_if_success with_reducible refine Need.mk ?_ ?_
       fail_if_success with_reducible refine CallVC.mk ?_
       fail_if_success with_reducible refine LoopEnd.mk ?_
       fail_if_success with_reducible refine Out.mk ?_
       fail_if_success with_reducible show False
       fail_if_success with_reducible refine NeedI.mk ?_ ?_
       conv => whnf)
  refine CallVC.mk' (fun _ => right_ok K.m K.right K.fits d1 small1.s small1.c small1.ls small1.lc) (fun _ => .cons ((.many fun j hj => by (rcases (show j = 0 ∨ j = 1 by omega) with rfl | rfl <;> exact CEq.refl _))) .nil) ?_
  rw [d1_right]
  repeat' first
    | with_reducible refine NeedI.mk (fun h => h) ?_
    | with_reducible refine NeedI.mk (fun h => h.2) ?_
    | with_reducible refine NeedI.mk (fun h => h.1) ?_
    | with_reducible exact Done.mk
    | with_reducible refine Both.mk (fun _ => ?_) (fun _ => ?_)
    | with_reducible refine Both2.mk (fun _ => ?_) ?_
    | with_reducible refine Need.mk (by with_reducible exact Nat.le_of_eq (Nat.zero_add _)) ?_
    | (fail_if_success with_reducible refine LoopVC.mk ?_
       fail_if_success with_reducible refine Need.mk ?_ ?_
       fail_if_success with_reducible refine CallVC.mk ?_
       fail_if_success with_reducible refine LoopEnd.mk ?_
       fail_if_success with_reducible refine Out.mk ?_
       fail_if_success with_reducible show False
       fail_if_success with_reducible refine NeedI.mk ?_ ?_
       conv => whnf)
  refine Need.mk (eB (by decide +kernel)) ?_
  repeat' first
    | with_reducible refine NeedI.mk (fun h => h) ?_
    | with_reducible refine NeedI.mk (fun h => h.2) ?_
    | with_reducible refine NeedI.mk (fun h => h.1) ?_
    | with_reducible exact Done.mk
    | with_reducible refine Both.mk (fun _ => ?_) (fun _ => ?_)
    | with_reducible refine Both2.mk (fun _ => ?_) ?_
    | with_reducible refine Need.mk (by with_reducible exact Nat.le_of_eq (Nat.zero_add _)) ?_
    | (fail_if_success with_reducible refine LoopVC.mk ?_
       fail_if_success with_reducible refine Need.mk ?_ ?_
       fail_if_success with_reducible refine CallVC.mk ?_
       fail_if_success with_reducible refine LoopEnd.mk ?_
       fail_if_success with_reducible refine Out.mk ?_
       fail_if_success with_reducible show False
       fail_if_success with_reducible refine NeedI.mk ?_ ?_
       conv => whnf)

set_option maxHeartbeats 8000000 in
set_option maxRecDepth 100000 in
theorem diskNew_law (L : KLaw P F) (hk : law03_DiskNew_k P F) (n : Int) : FnOk P (F 30) [.one (.int .i64 n)] [.one (.im (.bool true))] := by
  refine fnOk L.k.m hk ?_
  have K := L.k
  repeat' first
    | with_reducible refine NeedI.mk (fun h => h) ?_
    | with_reducible refine NeedI.mk (fun h => h.2) ?_
    | with_reducible refine NeedI.mk (fun h => h.1) ?_
    | with_reducible exact Done.mk
    | with_reducible refine Both.mk (fun _ => ?_) (fun _ => ?_)
    | with_reducible refine Both2.mk (fun _ => ?_) ?_
    | with_reducible refine Need.mk (by with_reducible exact Nat.le_of_eq (Nat.zero_add _)) ?_
    | (fail_if_success with_reducible refine LoopVC.mk ?_
       fail_if_success with_reducible refine Need.mk ?_ ?_
       fail_if_success with_reducible refine CallVC.mk ?_
       fail_if_success with_reducible refine LoopEnd.mk ?_
       fail_if_success with_reducible refine Out.mk ?_
       fail_if_success with_reducible show False
       fail_if_success with_reducible refine NeedI.mk ?_ ?_
       conv => whnf)
  refine CallVC.mk' (fun _ => new_ok K.m K.new n K.rep) (fun _ => .cons (.one (CEq.refl _)) .nil) ?_
  repeat' first
    | with_reducible refine NeedI.mk (fun h => h) ?_
    | with_reducible refine NeedI.mk (fun h => h.2) ?_
    | with_reducible refine NeedI.mk (fun h => h.1) ?_
    | with_reducible exact Done.mk
    | with_reducible refine Both.mk (fun _ => ?_) (fun _ => ?_)
    | with_reducible refine Both2.mk (fun _ => ?_) ?_
    | with_reducible refine Need.mk (by first | with_reducible exact CEq.refl _ | omega) ?_
    | (fail_if_success with_reducible refine LoopVC.mk ?_
       fail_if_success with_reducible refine Need.mk ?_ ?_
       fail_if_success with_reducible refine CallVC.mk ?_
       fail_if_success with_reducible refine LoopEnd.mk ?_
       fail_if_success with_reducible refine Out.mk ?_
       fail_if_success with_reducible show False
       fail_if_success with_reducible refine NeedI.mk ?_ ?_
       conv => whnf)
  · rename_i h
    simp only [Bool.or_eq_true, decide_eq_true_eq] at h
    rw [show newD n = ⟨[], []⟩ by unfold newD; exact if_neg (by omega), show newE n = 1 by unfold newE; exact if_neg (by omega)]
    refine Need.mk (by simp only [rng]; decide) ?_
    repeat' first
      | with_reducible refine NeedI.mk (fun h => h) ?_
      | with_reducible refine NeedI.mk (fun h => h.2) ?_
      | with_reducible refine NeedI.mk (fun h => h.1) ?_
      | with_reducible exact Done.mk
      | with_reducible refine Both.mk (fun _ => ?_) (fun _ => ?_)
      | with_reducible refine Both2.mk (fun _ => ?_) ?_
      | with_reducible refine Need.mk (by with_reducible exact Nat.le_of_eq (Nat.zero_add _)) ?_
      | (fail_if_success with_reducible refine LoopVC.mk ?_
         fail_if_success with_reducible refine Need.mk ?_ ?_
         fail_if_success with_reducible refine CallVC.mk ?_
         fail_if_success with_reducible refine LoopEnd.mk ?_
         fail_if_success with_reducible refine Out.mk ?_
         fail_if_success with_reducible show False
         fail_if_success with_reducible refine NeedI.mk ?_ ?_
         conv => whnf)
    refine CallVC.mk' (fun _ => awake_ok L) (fun _ => .nil) ?_
    repeat' first
      | with_reducible refine NeedI.mk (fun h => h) ?_
      | with_reducible refine NeedI.mk (fun h => h.2) ?_
      | with_reducible refine NeedI.mk (fun h => h.1) ?_
      | with_reducible exact Done.mk
      | with_reducible refine Both.mk (fun _ => ?_) (fun _ => ?_)
      | with_reducible refine Both2.mk (fun _ => ?_) ?_
      | with_reducible refine Need.mk (by with_reducible exact Nat.le_of_eq (Nat.zero_add _)) ?_
      | (fail_if_success with_reducible refine LoopVC.mk ?_
         fail_if_success with_reducible refine Need.mk ?_ ?_
         fail_if_success with_reducible refine CallVC.mk ?_
         fail_if_success with_reducible refine LoopEnd.mk ?_
         fail_if_success with_reducible refine Out.mk ?_
         fail_if_success with_reducible show False
         fail_if_success with_reducible refine NeedI.mk ?_ ?_
         conv => whnf)
    refine Need.mk (eB (by decide)) ?_
    repeat' first
      | with_reducible refine NeedI.mk (fun h => h) ?_
      | with_reducible refine NeedI.mk (fun h => h.2) ?_
      | with_reducible refine NeedI.mk (fun h => h.1) ?_
      | with_reducible exact Done.mk
      | with_reducible refine Both.mk (fun _ => ?_) (fun _ => ?_)
      | with_reducible refine Both2.mk (fun _ => ?_) ?_
      | with_reducible refine Need.mk (by with_reducible exact Nat.le_of_eq (Nat.zero_add _)) ?_
      | (fail_if_success with_reducible refine LoopVC.mk ?_
         fail_if_success with_reducible refine Need.mk ?_ ?_
         fail_if_success with_reducible refine CallVC.mk ?_
         fail_if_success with_reducible refine LoopEnd.mk ?_
         fail_if_success with_reducible refine Out.mk ?_
         fail_if_success with_reducible show False
         fail_if_success with_reducible refine NeedI.mk ?_ ?_
         conv => whnf)
  · rename_i h
    simp only [Bool.or_eq_false_iff, decide_eq_false_iff_not] at h
    obtain ⟨m, rfl⟩ : ∃ m : Nat, n = m := ⟨n.toNat, by omega⟩
    have e1 : newD m = ⟨List.replicate m zs, []⟩ := by unfold newD; exact if_pos (by omega)
    have e2 : newE m = 0 := by unfold newE; exact if_pos (by omega)
    have hlen : (List.replicate m zs).length = m := List.length_replicate
    rw [e1, e2]
    refine LoopVC.inv (fun i : Nat => i ≤ m) (fun i => stL [(0, .c (.int .i64 m)), (3, .va 3 0 0), (4, .c (.int .i64 0)), (34, .c (slL 1 strE (List.replicate m zs))), (35, .c (.int .i64 m)), (36, .c (.int .i64 i))]
        [(3, vE [.c (slL 1 strE (List.replicate m zs)), .c (slL 2 wrE [])])])
      (fun i => m - i) 0 (Nat.zero_le _) ?_ ?_
    · refine Le.of ⟨rfl, ⟨rfl, rfl, rfl⟩, rfl, CEq.refl _, cI (by rw [hlen]), rfl, trivial⟩
        ⟨⟨_, rfl, SubE.var2 (CEq.refl _) (CEq.refl _)⟩, trivial⟩
    rintro Q hQ i hi
    have hz : ¬ i < m ∨ (List.replicate m zs).getD i default = zs := by
      by_cases h : i < m
      · right; rw [getD_eq (by rw [hlen]; exact h)]; simp
      · exact .inl h
    repeat' first
      | with_reducible refine NeedI.mk (fun h => h) ?_
      | with_reducible refine NeedI.mk (fun h => h.2) ?_
      | with_reducible refine NeedI.mk (fun h => h.1) ?_
      | with_reducible exact Done.mk
      | with_reducible refine Both.mk (fun _ => ?_) (fun _ => ?_)
      | with_reducible refine Both2.mk (fun _ => ?_) ?_
      | with_reducible refine Need.mk (by first | with_reducible exact CEq.refl _ | omega | (simp only [decide_eq_true_eq, decide_eq_false_iff_not, Bool.or_eq_true, Bool.and_eq_true, Bool.or_eq_false_iff, Int.toNat_natCast, addN_eq, cond_false, cond_true, rng] at *; omega)) ?_
      | (fail_if_success with_reducible refine LoopVC.mk ?_
         fail_if_success with_reducible refine Need.mk ?_ ?_
         fail_if_success with_reducible refine CallVC.mk ?_
         fail_if_success with_reducible refine LoopEnd.mk ?_
         fail_if_success with_reducible refine Out.mk ?_
         fail_if_success with_reducible show False
         fail_if_success with_reducible refine NeedI.mk ?_ ?_
         conv => whnf)
    · rename_i h3 h4
      exfalso
      simp only [decide_eq_true_eq] at h3
      rcases hz with hz | hz
      · omega
      · rw [Int.toNat_natCast, hz] at h4; exact absurd h4 (by decide)
    · rename_i h3 h4
      simp only [decide_eq_true_eq] at h3
      refine LoopEnd.mk ⟨i + 1, by omega, by omega, ?_⟩
      refine Le.of ⟨rfl, ⟨rfl, rfl, rfl⟩, rfl, CEq.refl _, rfl, cI (by simp), trivial⟩ ⟨⟨_, rfl, SubE.var2 (CEq.refl _) (CEq.refl _)⟩, trivial⟩
    · rename_i h3
      simp only [decide_eq_false_iff_not] at h3
      obtain rfl : i = m := by omega
      refine Out.mk (hQ _ _ ?_)
      rw [hlen]
      repeat' first
        | with_reducible refine NeedI.mk (fun h => h) ?_
        | with_reducible refine NeedI.mk (fun h => h.2) ?_
        | with_reducible refine NeedI.mk (fun h => h.1) ?_
        | with_reducible exact Done.mk
        | with_reducible refine Both.mk (fun _ => ?_) (fun _ => ?_)
        | with_reducible refine Both2.mk (fun _ => ?_) ?_
        | with_reducible refine Need.mk (by with_reducible exact Nat.le_of_eq (Nat.zero_add _)) ?_
        | (fail_if_success with_reducible refine LoopVC.mk ?_
           fail_if_success with_reducible refine Need.mk ?_ ?_
           fail_if_success with_reducible refine CallVC.mk ?_
           fail_if_success with_reducible refine LoopEnd.mk ?_
           fail_if_success with_reducible refine Out.mk ?_
           fail_if_success with_reducible show False
           fail_if_success with_reducible refine NeedI.mk ?_ ?_
           conv => whnf)
      refine CallVC.mk' (fun _ => awake_ok L) (fun _ => .nil) ?_
      repeat' first
        | with_reducible refine NeedI.mk (fun h => h) ?_
        | with_reducible refine NeedI.mk (fun h => h.2) ?_
        | with_reducible refine NeedI.mk (fun h => h.1) ?_
        | with_reducible exact Done.mk
        | with_reducible refine Both.mk (fun _ => ?_) (fun _ => ?_)
        | with_reducible refine Both2.mk (fun _ => ?_) ?_
        | with_reducible refine Need.mk (by with_reducible exact Nat.le_of_eq (Nat.zero_add _)) ?_
        | (fail_if_success with_reducible refine LoopVC.mk ?_
           fail_if_success with_reducible refine Need.mk ?_ ?_
           fail_if_success with_reducible refine CallVC.mk ?_
           fail_if_success with_reducible refine LoopEnd.mk ?_
           fail_if_success with_reducible refine Out.mk ?_
           fail_if_success with_reducible show False
           fail_if_success with_reducible refine NeedI.mk ?_ ?_
           conv => whnf)
      refine Need.mk (eB ?_) ?_
      · simp
      · repeat' first
          | with_reducible refine NeedI.mk (fun h => h) ?_
          | with_reducible refine NeedI.mk (fun h => h.2) ?_
          | with_reducible refine NeedI.mk (fun h => h.1) ?_
          | with_reducible exact Done.mk
          | with_reducible refine Both.mk (fun _ => ?_) (fun _ => ?_)
          | with_reducible refine Both2.mk (fun _ => ?_) ?_
          | with_reducible refine Need.mk (by with_reducible exact Nat.le_of_eq (Nat.zero_add _)) ?_
          | (fail_if_success with_reducible refine LoopVC.mk ?_
             fail_if_success with_reducible refine Need.mk ?_ ?_
             fail_if_success with_reducible refine CallVC.mk ?_
             fail_if_success with_reducible refine LoopEnd.mk ?_
             fail_if_success with_reducible refine Out.mk ?_
             fail_if_success with_reducible show False
             fail_if_success with_reducible refine NeedI.mk ?_ ?_
             conv => whnf)
end
end Lk.S03
