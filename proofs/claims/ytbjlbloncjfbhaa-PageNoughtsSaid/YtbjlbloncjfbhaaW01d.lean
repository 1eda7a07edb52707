/-
  Chapter 1: the document's own sum.
-/
import Derived.Test.YtbjlbloncjfbhaaW01b
namespace Lk.S01
open Go Lk Lk.C

def refStp (x : BitVec 32) (b : UInt8) : BitVec 32 := Nat.repeat e1 8 (x ^^^ b.toBitVec.setWidth 32)
def refS (s : List UInt8) : BitVec 32 := s.foldl refStp 4294967295#32

theorem refS_snoc (s : List UInt8) (i : Nat) (hi : i < s.length) : refS (s.take (i + 1)) = refStp (refS (s.take i)) (s.getD i 0) := by
  unfold refS
  rw [List.take_succ_eq_append_getElem hi, List.foldl_append, List.getD_eq_getElem?_getD, List.getElem?_eq_getElem hi]
  rfl

theorem xorb (x : BitVec 32) (b : UInt8) : bitI .xor .u32 (x.toNat : Int) (b.toNat : Int) = ((x ^^^ b.toBitVec.setWidth 32).toNat : Int) := by
  rw [← xor_u32]
  congr 1

theorem u8_u32 (b : UInt8) : rng .u32 (b.toNat : Int) := by have := b.toNat_lt; simp only [rng]; omega
theorem u32_half (x : BitVec 32) : rng .u32 ((x.toNat : Int) / (2 : Int)) := by have := x.isLt; simp only [rng]; omega
theorem u32_pos (x : BitVec 32) : 0 ≤ (x.toNat : Int) ∧ (0 : Int) < 2 := by omega


set_option maxHeartbeats 8000000 in
set_option maxRecDepth 100000 in
theorem ref_ok {P : Program} {F : Nat → Nat} (hm : P.follows .mixedOrders = true) (hk : ref01_Sum_k P F) (s : List UInt8) (hs : s.length ≤ 1000000) : FnOk P (F 22) [.one (.str s)] [.one (.im (.int .i64 ((~~~ refS s).toNat : Int)))] := by
  refine fnOk hm hk ?_
  repeat' first
    | with_reducible refine NeedI.mk (fun h => h) ?_
    | with_reducible refine NeedI.mk (fun h => h.2) ?_
    | with_reducible refine NeedI.mk (fun h => h.1) ?_
    | with_reducible exact Done.mk
    | with_reducible refine Both.mk (fun _ => ?_) (fun _ => ?_)
    | with_reducible refine Both2.mk (fun _ => ?_) ?_
    | with_reducible refine Need.mk (by first | omega | with_reducible exact CEq.refl _) ?_
    | (fail_if_success with_reducible refine LoopVC.mk ?_
       fail_if_success with_reducible refine Need.mk ?_ ?_
       fail_if_success with_reducible refine CallVC.mk ?_
       fail_if_success with_reducible refine LoopEnd.mk ?_
       fail_if_success with_reducible refine Out.mk ?_
       fail_if_success with_reducible show False
       fail_if_success with_reducible refine NeedI.mk ?_ ?_
       conv => whnf)
  refine LoopVC.of (X := {i : Nat // i ≤ s.length}) (fun i => stL [(0, .c (.str s)), (3, .c (.int .u32 ((refS (s.take i.1)).toNat : Int))), (4, .c (.int .i64 i.1))] [])
    (fun i => s.length - i.1) ⟨0, Nat.zero_le _⟩ (Le.of ⟨rfl, rfl, rfl, trivial⟩ trivial) ?_
  rintro Q hQ ⟨i, hi⟩
  repeat' first
    | with_reducible refine NeedI.mk (fun h => h) ?_
    | with_reducible refine NeedI.mk (fun h => h.2) ?_
    | with_reducible refine NeedI.mk (fun h => h.1) ?_
    | with_reducible exact Done.mk
    | with_reducible refine Both.mk (fun _ => ?_) (fun _ => ?_)
    | with_reducible refine Both2.mk (fun _ => ?_) ?_
    | with_reducible refine Need.mk (by first | with_reducible exact u8_u32 _ | with_reducible exact CEq.refl _ | (simp only [decide_eq_true_eq, decide_eq_false_iff_not, rng] at *; omega)) ?_
    | (fail_if_success with_reducible refine LoopVC.mk ?_
       fail_if_success with_reducible refine Need.mk ?_ ?_
       fail_if_success with_reducible refine CallVC.mk ?_
       fail_if_success with_reducible refine LoopEnd.mk ?_
       fail_if_success with_reducible refine Out.mk ?_
       fail_if_success with_reducible show False
       fail_if_success with_reducible refine NeedI.mk ?_ ?_
       conv => whnf)
  · rename_i h
    simp only [decide_eq_true_eq] at h
    have hlt : i < s.length := by omega
    refine LoopVC.of (X := {k : Nat // k ≤ 8}) (fun k => stL [(0, .c (.str s)), (3, .c (.int .u32 ((Nat.repeat e1 k.1 (refS (s.take i) ^^^ (s.getD i 0).toBitVec.setWidth 32)).toNat : Int))), (4, .c (.int .i64 i)), (5, .c (.int .i64 k.1))] [])
      (fun k => 8 - k.1) ⟨0, Nat.zero_le _⟩ (Le.of ⟨rfl, cI ?_, rfl, rfl, trivial⟩ trivial) ?_
    · rw [xorb]; rfl
    rintro Q2 hQ2 ⟨k, hk⟩
    repeat' first
      | with_reducible refine NeedI.mk (fun h => h) ?_
      | with_reducible refine NeedI.mk (fun h => h.2) ?_
      | with_reducible refine NeedI.mk (fun h => h.1) ?_
      | with_reducible exact Done.mk
      | with_reducible refine Both.mk (fun _ => ?_) (fun _ => ?_)
      | with_reducible refine Both2.mk (fun _ => ?_) ?_
      | with_reducible refine Need.mk (by first | with_reducible exact u32_half _ | with_reducible exact u32_pos _ | with_reducible exact CEq.refl _ | (simp only [decide_eq_true_eq, decide_eq_false_iff_not, rng] at *; omega)) ?_
      | (fail_if_success with_reducible refine LoopVC.mk ?_
         fail_if_success with_reducible refine Need.mk ?_ ?_
         fail_if_success with_reducible refine CallVC.mk ?_
         fail_if_success with_reducible refine LoopEnd.mk ?_
         fail_if_success with_reducible refine Out.mk ?_
         fail_if_success with_reducible show False
         fail_if_success with_reducible refine NeedI.mk ?_ ?_
         conv => whnf)
    · rename_i h1 h2
      rw [e1_rem] at h2
      simp only [decide_eq_true_eq] at h1 h2
      have hk1 : k + 1 ≤ 8 := by omega
      refine LoopEnd.mk ?_
      refine ⟨⟨k + 1, hk1⟩, by show 8 - (k + 1) < 8 - k; omega, Le.of ⟨rfl, cI ?_, rfl, cI (by simp), trivial⟩ trivial⟩
      rw [half_u32, show (3988292384 : Int) = ((3988292384#32 : BitVec 32).toNat : Int) from rfl, xor_u32]
      show _ = ((e1 (Nat.repeat e1 k _)).toNat : Int)
      rw [e1_odd h2]
    · rename_i h1 h2
      rw [e1_rem] at h2
      simp only [decide_eq_true_eq, decide_eq_false_iff_not] at h1 h2
      have hk1 : k + 1 ≤ 8 := by omega
      refine LoopEnd.mk ?_
      refine ⟨⟨k + 1, hk1⟩, by show 8 - (k + 1) < 8 - k; omega, Le.of ⟨rfl, cI ?_, rfl, cI (by simp), trivial⟩ trivial⟩
      rw [half_u32]
      show _ = ((e1 (Nat.repeat e1 k _)).toNat : Int)
      rw [e1_even h2]
    · rename_i h1
      simp only [decide_eq_false_iff_not] at h1
      obtain rfl : k = 8 := by omega
      refine Out.mk (hQ2 _ _ ?_)
      repeat' first
        | with_reducible refine NeedI.mk (fun h => h) ?_
        | with_reducible refine NeedI.mk (fun h => h.2) ?_
        | with_reducible refine NeedI.mk (fun h => h.1) ?_
        | with_reducible exact Done.mk
        | with_reducible refine Both.mk (fun _ => ?_) (fun _ => ?_)
        | with_reducible refine Both2.mk (fun _ => ?_) ?_
        | with_reducible refine Need.mk (by first | omega | (simp only [rng]; omega)) ?_
        | (fail_if_success with_reducible refine LoopVC.mk ?_
           fail_if_success with_reducible refine Need.mk ?_ ?_
           fail_if_success with_reducible refine CallVC.mk ?_
           fail_if_success with_reducible refine LoopEnd.mk ?_
           fail_if_success with_reducible refine Out.mk ?_
           fail_if_success with_reducible show False
           fail_if_success with_reducible refine NeedI.mk ?_ ?_
           conv => whnf)
      refine LoopEnd.mk ?_
      refine ⟨⟨i + 1, hlt⟩, by show s.length - (i + 1) < s.length - i; omega, Le.of ⟨rfl, cI ?_, cI (by simp), trivial⟩ trivial⟩
      rw [refS_snoc s i hlt]
      rfl
  · rename_i h
    simp only [decide_eq_false_iff_not] at h
    obtain rfl : i = s.length := by omega
    refine Out.mk (hQ _ _ ?_)
    repeat' first
      | with_reducible refine NeedI.mk (fun h => h) ?_
      | with_reducible refine NeedI.mk (fun h => h.2) ?_
      | with_reducible refine NeedI.mk (fun h => h.1) ?_
      | with_reducible exact Done.mk
      | with_reducible refine Both.mk (fun _ => ?_) (fun _ => ?_)
      | with_reducible refine Both2.mk (fun _ => ?_) ?_
      | with_reducible refine Need.mk (by first | with_reducible exact rng_com _ ) ?_
      | (fail_if_success with_reducible refine LoopVC.mk ?_
         fail_if_success with_reducible refine Need.mk ?_ ?_
         fail_if_success with_reducible refine CallVC.mk ?_
         fail_if_success with_reducible refine LoopEnd.mk ?_
         fail_if_success with_reducible refine Out.mk ?_
         fail_if_success with_reducible show False
         fail_if_success with_reducible refine NeedI.mk ?_ ?_
         conv => whnf)
    refine Need.mk (eI ?_) ?_
    · rw [com_u32, List.take_length]
    · repeat' first
        | with_reducible refine NeedI.mk (fun h => h) ?_
        | with_reducible refine NeedI.mk (fun h => h.2) ?_
        | with_reducible refine NeedI.mk (fun h => h.1) ?_
        | with_reducible exact Done.mk
        | with_reducible refine Both.mk (fun _ => ?_) (fun _ => ?_)
        | with_reducible refine Both2.mk (fun _ => ?_) ?_
        | with_reducible refine Need.mk (by with_reducible exact CEq.refl _) ?_
        | (fail_if_success with_reducible refine LoopVC.mk ?_
           fail_if_success with_reducible refine Need.mk ?_ ?_
           fail_if_success with_reducible refine CallVC.mk ?_
           fail_if_success with_reducible refine LoopEnd.mk ?_
           fail_if_success with_reducible refine Out.mk ?_
           fail_if_success with_reducible show False
           fail_if_success with_reducible refine NeedI.mk ?_ ?_
           conv => whnf)
end Lk.S01
