/-
  Chapter 1: SumLast.
-/
import Derived.Test.YtbfhhfbblnkdhaaS01j
namespace Lk.S01
open Go Lk Go.Proofs

theorem chk7 : chkFn Try.prog 7 3 c7 [6] = true := by kernel_rfl

theorem bytesLen (n : Nat) (f : Nat → Cell) : (bytesOf n f).length = n := by simp [bytesOf]
theorem eS {a b : List UInt8} (h : a = b) : CEq (.str a) (.str b) := by subst h; exact rfl
theorem bytes1 (s : List UInt8) (a : UInt8) : (s ++ bytesOf 1 fun _ => .int .u8 (a.toNat : Int)) = s ++ [a] := by
  simp [bytesOf, toU8]
theorem last_iff (s : List UInt8) (a b : UInt8) : (((~~~ refS (s ++ [a])).toNat : Int) = ((~~~ refS (s ++ [b])).toNat : Int)) ↔ ((a.toNat : Int) = (b.toNat : Int)) := by
  constructor
  · intro h
    have h1 : ~~~ refS (s ++ [a]) = ~~~ refS (s ++ [b]) := BitVec.eq_of_toNat_eq (by omega)
    have h2 := BitVec.not_inj.1 h1
    unfold refS at h2
    rw [List.foldl_append, List.foldl_append] at h2
    have h3 : s.foldl refStp 4294967295#32 ^^^ a.toBitVec.setWidth 32 = s.foldl refStp 4294967295#32 ^^^ b.toBitVec.setWidth 32 := rep_inj h2
    have h4 := (BitVec.xor_right_inj _).1 h3
    have h5 : (a.toBitVec.setWidth 32).toNat = (b.toBitVec.setWidth 32).toNat := by rw [h4]
    have ha := a.toNat_lt
    have hb := b.toNat_lt
    simp only [BitVec.toNat_setWidth, UInt8.toNat_toBitVec] at h5
    omega
  · intro h
    have : a = b := UInt8.toNat_inj.1 (by omega)
    rw [this]

set_option maxHeartbeats 8000000 in
set_option maxRecDepth 100000 in
theorem sumLast_law (s : List UInt8) (a b : UInt8) : FnOk Try.prog 7 [.one (.str s), .one (.int .u8 (a.toNat : Int)), .one (.int .u8 (b.toNat : Int))] [.one (.im (.bool true))] := by
  refine fnOk mixed chk7 ?_
  repeat' first
    | with_reducible refine NeedI.mk (fun h => h) ?_
    | with_reducible refine NeedI.mk (fun h => h.2) ?_
    | with_reducible refine NeedI.mk (fun h => h.1) ?_
    | with_reducible exact Done.mk
    | with_reducible refine Both.mk (fun _ => ?_) (fun _ => ?_)
    | with_reducible refine Need.mk (by first | omega | with_reducible exact CEq.refl _) ?_
    | (fail_if_success with_reducible refine LoopVC.mk ?_
       fail_if_success with_reducible refine Need.mk ?_ ?_
       fail_if_success with_reducible refine CallVC.mk ?_
       fail_if_success with_reducible refine LoopEnd.mk ?_
       fail_if_success with_reducible refine Out.mk ?_
       fail_if_success with_reducible show False
       fail_if_success with_reducible refine NeedI.mk ?_ ?_
       conv => whnf)
  · refine CallVC.mk' (fun _ => awake_ok) (fun _ => .nil) ?_
    repeat' first
      | with_reducible refine NeedI.mk (fun h => h) ?_
      | with_reducible refine NeedI.mk (fun h => h.2) ?_
      | with_reducible refine NeedI.mk (fun h => h.1) ?_
      | with_reducible exact Done.mk
      | with_reducible refine Both.mk (fun _ => ?_) (fun _ => ?_)
      | with_reducible refine Need.mk (by first | omega | with_reducible exact CEq.refl _) ?_
      | (fail_if_success with_reducible refine LoopVC.mk ?_
         fail_if_success with_reducible refine Need.mk ?_ ?_
         fail_if_success with_reducible refine CallVC.mk ?_
         fail_if_success with_reducible refine LoopEnd.mk ?_
         fail_if_success with_reducible refine Out.mk ?_
         fail_if_success with_reducible show False
         fail_if_success with_reducible refine NeedI.mk ?_ ?_
         conv => whnf)
  · rename_i hs
    simp only [decide_eq_false_iff_not] at hs
    refine CallVC.mk' (fun _ => table_ok) (fun _ => .nil) ?_
    repeat' first
      | with_reducible refine NeedI.mk (fun h => h) ?_
      | with_reducible refine NeedI.mk (fun h => h.2) ?_
      | with_reducible refine NeedI.mk (fun h => h.1) ?_
      | with_reducible exact Done.mk
      | with_reducible refine Both.mk (fun _ => ?_) (fun _ => ?_)
      | with_reducible refine Need.mk (by first | omega | with_reducible exact CEq.refl _ | (intro i hi; obtain rfl : i = 0 := by omega; exact True.intro) | (simp only [bytesOf, List.length_map, List.length_range, List.length_append]; omega)) ?_
      | (fail_if_success with_reducible refine LoopVC.mk ?_
         fail_if_success with_reducible refine Need.mk ?_ ?_
         fail_if_success with_reducible refine CallVC.mk ?_
         fail_if_success with_reducible refine LoopEnd.mk ?_
         fail_if_success with_reducible refine Out.mk ?_
         fail_if_success with_reducible show False
         fail_if_success with_reducible refine NeedI.mk ?_ ?_
         conv => whnf)
    refine Need.mk (fun i hi => by obtain rfl : i = 0 := Nat.lt_one_iff.1 hi; exact True.intro) ?_
    refine Need.mk (by rw [bytesLen]; omega) ?_
    repeat' first
      | with_reducible refine NeedI.mk (fun h => h) ?_
      | with_reducible refine NeedI.mk (fun h => h.2) ?_
      | with_reducible refine NeedI.mk (fun h => h.1) ?_
      | with_reducible exact Done.mk
      | with_reducible refine Both.mk (fun _ => ?_) (fun _ => ?_)
      | with_reducible refine Need.mk (by first | omega) ?_
      | (fail_if_success with_reducible refine LoopVC.mk ?_
         fail_if_success with_reducible refine Need.mk ?_ ?_
         fail_if_success with_reducible refine CallVC.mk ?_
         fail_if_success with_reducible refine LoopEnd.mk ?_
         fail_if_success with_reducible refine Out.mk ?_
         fail_if_success with_reducible show False
         fail_if_success with_reducible refine NeedI.mk ?_ ?_
         conv => whnf)
    refine CallVC.mk' (fun _ => sum_ok tabT (s ++ [a]) (by simp; omega)) (fun _ => .cons (.one (CEq.refl _)) (.cons (.one (eS (bytes1 _ _))) .nil)) ?_
    repeat' first
      | with_reducible refine NeedI.mk (fun h => h) ?_
      | with_reducible refine NeedI.mk (fun h => h.2) ?_
      | with_reducible refine NeedI.mk (fun h => h.1) ?_
      | with_reducible exact Done.mk
      | with_reducible refine Both.mk (fun _ => ?_) (fun _ => ?_)
      | with_reducible refine Need.mk (by first | omega | with_reducible exact CEq.refl _ | (intro i hi; obtain rfl : i = 0 := by omega; exact True.intro) | (simp only [bytesOf, List.length_map, List.length_range, List.length_append]; omega)) ?_
      | (fail_if_success with_reducible refine LoopVC.mk ?_
         fail_if_success with_reducible refine Need.mk ?_ ?_
         fail_if_success with_reducible refine CallVC.mk ?_
         fail_if_success with_reducible refine LoopEnd.mk ?_
         fail_if_success with_reducible refine Out.mk ?_
         fail_if_success with_reducible show False
         fail_if_success with_reducible refine NeedI.mk ?_ ?_
         conv => whnf)
    refine Need.mk (fun i hi => by obtain rfl : i = 0 := Nat.lt_one_iff.1 hi; exact True.intro) ?_
    refine Need.mk (by rw [bytesLen]; omega) ?_
    repeat' first
      | with_reducible refine NeedI.mk (fun h => h) ?_
      | with_reducible refine NeedI.mk (fun h => h.2) ?_
      | with_reducible refine NeedI.mk (fun h => h.1) ?_
      | with_reducible exact Done.mk
      | with_reducible refine Both.mk (fun _ => ?_) (fun _ => ?_)
      | with_reducible refine Need.mk (by first | omega) ?_
      | (fail_if_success with_reducible refine LoopVC.mk ?_
         fail_if_success with_reducible refine Need.mk ?_ ?_
         fail_if_success with_reducible refine CallVC.mk ?_
         fail_if_success with_reducible refine LoopEnd.mk ?_
         fail_if_success with_reducible refine Out.mk ?_
         fail_if_success with_reducible show False
         fail_if_success with_reducible refine NeedI.mk ?_ ?_
         conv => whnf)
    refine CallVC.mk' (fun _ => sum_ok tabT (s ++ [b]) (by simp; omega)) (fun _ => .cons (.one (CEq.refl _)) (.cons (.one (eS (bytes1 _ _))) .nil)) ?_
    repeat' first
      | with_reducible refine NeedI.mk (fun h => h) ?_
      | with_reducible refine NeedI.mk (fun h => h.2) ?_
      | with_reducible refine NeedI.mk (fun h => h.1) ?_
      | with_reducible exact Done.mk
      | with_reducible refine Both.mk (fun _ => ?_) (fun _ => ?_)
      | with_reducible refine Need.mk (by first | omega | with_reducible exact CEq.refl _ | (intro i hi; obtain rfl : i = 0 := by omega; exact True.intro) | (simp only [bytesOf, List.length_map, List.length_range, List.length_append]; omega)) ?_
      | (fail_if_success with_reducible refine LoopVC.mk ?_
         fail_if_success with_reducible refine Need.mk ?_ ?_
         fail_if_success with_reducible refine CallVC.mk ?_
         fail_if_success with_reducible refine LoopEnd.mk ?_
         fail_if_success with_reducible refine Out.mk ?_
         fail_if_success with_reducible show False
         fail_if_success with_reducible refine NeedI.mk ?_ ?_
         conv => whnf)
    refine CallVC.mk' (fun _ => awake_ok) (fun _ => .nil) ?_
    repeat' first
      | with_reducible refine NeedI.mk (fun h => h) ?_
      | with_reducible refine NeedI.mk (fun h => h.2) ?_
      | with_reducible refine NeedI.mk (fun h => h.1) ?_
      | with_reducible exact Done.mk
      | with_reducible refine Both.mk (fun _ => ?_) (fun _ => ?_)
      | with_reducible refine Need.mk (by first | omega | with_reducible exact CEq.refl _) ?_
      | (fail_if_success with_reducible refine LoopVC.mk ?_
         fail_if_success with_reducible refine Need.mk ?_ ?_
         fail_if_success with_reducible refine CallVC.mk ?_
         fail_if_success with_reducible refine LoopEnd.mk ?_
         fail_if_success with_reducible refine Out.mk ?_
         fail_if_success with_reducible show False
         fail_if_success with_reducible refine NeedI.mk ?_ ?_
         conv => whnf)
    refine Need.mk (eB ?_) ?_
    · have h : ((((~~~ sumS tabT (s ++ [a])).toNat : Int) = ((~~~ sumS tabT (s ++ [b])).toNat : Int)) ↔ ((a.toNat : Int) = (b.toNat : Int))) := by
        rw [sum_ref, sum_ref]
        exact last_iff s a b
      simp only [h]
      simp
    · repeat' first
        | with_reducible refine NeedI.mk (fun h => h) ?_
        | with_reducible refine NeedI.mk (fun h => h.2) ?_
        | with_reducible refine NeedI.mk (fun h => h.1) ?_
        | with_reducible exact Done.mk
        | with_reducible refine Both.mk (fun _ => ?_) (fun _ => ?_)
        | with_reducible refine Need.mk (by with_reducible exact CEq.refl _) ?_
        | (fail_if_success with_reducible refine LoopVC.mk ?_
           fail_if_success with_reducible refine Need.mk ?_ ?_
           fail_if_success with_reducible refine CallVC.mk ?_
           fail_if_success with_reducible refine LoopEnd.mk ?_
           fail_if_success with_reducible refine Out.mk ?_
           fail_if_success with_reducible show False
           fail_if_success with_reducible refine NeedI.mk ?_ ?_
           conv => whnf)
end Lk.S01
