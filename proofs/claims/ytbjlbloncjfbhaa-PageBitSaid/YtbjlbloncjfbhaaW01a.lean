/-
  Chapter 1: the sum.
-/
import Derived.Test.YtbjlbloncjfbhaaC01
import Derived.Test.YtbjlbloncjfbhaaLkC
namespace Lk.S01
open Go Lk Lk.C


structure KSum (P : Program) (F : Nat → Nat) : Prop where
  m : P.follows .mixedOrders = true
  sum : sum_Sum_k P F
  table : sum_Table_k P F

/-- One byte more. -/
def stp (T : Nat → Int) (x : BitVec 32) (b : UInt8) : BitVec 32 :=
  BitVec.ofInt 32 (T (x.setWidth 8 ^^^ b.toBitVec).toNat) ^^^ (x >>> 8)
def sumS (T : Nat → Int) (s : List UInt8) : BitVec 32 := s.foldl (stp T) 4294967295#32


theorem u8bv (b : UInt8) : (b.toNat : Int) = (b.toBitVec.toNat : Int) := rfl
theorem bv8_range (x : BitVec 8) : 0 ≤ (x.toNat : Int) ∧ (x.toNat : Int) < ((256 : Nat) : Int) := by have := x.isLt; omega
theorem bv32_i64 (x : BitVec 32) : rng .i64 (x.toNat : Int) := by have := x.isLt; unfold rng; omega

theorem ix8 (x : BitVec 32) (b : UInt8) : 0 ≤ bitI .xor .u8 (wrapI .u8 (x.toNat : Int)) (b.toNat : Int) ∧ bitI .xor .u8 (wrapI .u8 (x.toNat : Int)) (b.toNat : Int) < ((256 : Nat) : Int) := by
  simp only [wrap_u8_32, u8bv, xor_u8]; exact bv8_range _
theorem rng_com (x : BitVec 32) : rng .i64 (comI .u32 (x.toNat : Int)) := by rw [com_u32]; exact bv32_i64 _

theorem sumS_snoc (T : Nat → Int) (s : List UInt8) (i : Nat) (hi : i < s.length) : sumS T (s.take (i + 1)) = stp T (sumS T (s.take i)) (s.getD i 0) := by
  unfold sumS
  rw [List.take_succ_eq_append_getElem hi, List.foldl_append, List.getD_eq_getElem?_getD, List.getElem?_eq_getElem hi]
  rfl

set_option maxHeartbeats 8000000 in
set_option maxRecDepth 100000 in
theorem sum_ok {P : Program} {F : Nat → Nat} (K : KSum P F) (T : Nat → Int) (s : List UInt8) (hs : s.length ≤ 1000000) :
    FnOk P (F 21) [.one (.sl 1 256 fun i _ => .int .i64 (T i)), .one (.str s)] [.one (.im (.int .i64 ((~~~ sumS T s).toNat : Int))), .one (.im (.bool true))] := by
  refine fnOk K.m K.sum ?_
  repeat' first
    | with_reducible refine NeedI.mk (fun h => h) ?_
    | with_reducible refine NeedI.mk (fun h => h.2) ?_
    | with_reducible refine NeedI.mk (fun h => h.1) ?_
    | with_reducible exact Done.mk
    | with_reducible refine Both.mk (fun _ => ?_) (fun _ => ?_)
    | with_reducible refine Both2.mk (fun _ => ?_) ?_
    | with_reducible refine Need.mk (by first | omega | with_reducible exact CEq.refl _ | (intro _; omega) | (simp only [decide_eq_true_eq, decide_eq_false_iff_not, Bool.or_eq_true, Bool.and_eq_true, Bool.or_eq_false_iff, Int.toNat_natCast, addN_eq, cond_false, cond_true, rng] at *; omega) | (intro _; simp only [decide_eq_true_eq, decide_eq_false_iff_not, Bool.or_eq_true, Bool.and_eq_true, Bool.or_eq_false_iff, Int.toNat_natCast, addN_eq, cond_false, cond_true, rng] at *; omega)) ?_
    | (fail_if_success with_reducible refine LoopVC.mk ?_
       fail_if_success with_reducible refine Need.mk ?_ ?_
       fail_if_success with_reducible refine CallVC.mk ?_
       fail_if_success with_reducible refine LoopEnd.mk ?_
       fail_if_success with_reducible refine Out.mk ?_
       fail_if_success with_reducible show False
       fail_if_success with_reducible refine NeedI.mk ?_ ?_
       conv => whnf)
  · rename_i h
    simp at h
  · refine LoopVC.of (X := {i : Nat // i ≤ s.length}) (fun i => stL [(0, .c (.sl 1 256 fun i _ => .int .i64 (T i))), (1, .c (.str s)), (6, .c (.int .u32 ((sumS T (s.take i.1)).toNat : Int))), (7, .c (.int .i64 i.1))] [])
      (fun i => s.length - i.1) ⟨0, Nat.zero_le _⟩ (Le.of ⟨CEq.refl _, rfl, rfl, rfl, trivial⟩ trivial) ?_
    rintro Q hQ ⟨i, hi⟩
    repeat' first
      | with_reducible refine NeedI.mk (fun h => h) ?_
      | with_reducible refine NeedI.mk (fun h => h.2) ?_
      | with_reducible refine NeedI.mk (fun h => h.1) ?_
      | with_reducible exact Done.mk
      | with_reducible refine Both.mk (fun _ => ?_) (fun _ => ?_)
      | with_reducible refine Both2.mk (fun _ => ?_) ?_
      | with_reducible refine Need.mk (by first | with_reducible exact ix8 _ _ | with_reducible exact rng_com _ | with_reducible exact CEq.refl _ | (simp only [decide_eq_true_eq, decide_eq_false_iff_not, rng] at *; omega)) ?_
      | (fail_if_success with_reducible refine LoopVC.mk ?_
         fail_if_success with_reducible refine Need.mk ?_ ?_
         fail_if_success with_reducible refine CallVC.mk ?_
         fail_if_success with_reducible refine LoopEnd.mk ?_
         fail_if_success with_reducible refine Out.mk ?_
         fail_if_success with_reducible show False
         fail_if_success with_reducible refine NeedI.mk ?_ ?_
         conv => whnf)
    · rename_i h
      simp only [decide_eq_true_eq] at h
      have hlt : i < s.length := by omega
      refine LoopEnd.mk ?_
      refine ⟨⟨i + 1, hlt⟩, by show s.length - (i + 1) < s.length - i; omega, Le.of ⟨CEq.refl _, rfl, cI ?_, cI (by simp), trivial⟩ trivial⟩
      simp only [wrap_u8_32, u8bv, xor_u8, wrap_u32', Int.toNat_natCast]
      rw [show (8 : Int) = ((8 : Nat) : Int) from rfl, shr_u32 _ 8 (by omega), xor_u32, sumS_snoc T s i hlt]
      rfl
    · rename_i h
      simp only [decide_eq_false_iff_not] at h
      have hlt : i = s.length := by omega
      subst hlt
      refine Out.mk (hQ _ _ ?_)
      repeat' first
        | with_reducible refine NeedI.mk (fun h => h) ?_
        | with_reducible refine NeedI.mk (fun h => h.2) ?_
        | with_reducible refine NeedI.mk (fun h => h.1) ?_
        | with_reducible exact Done.mk
        | with_reducible refine Both.mk (fun _ => ?_) (fun _ => ?_)
        | with_reducible refine Both2.mk (fun _ => ?_) ?_
        | with_reducible refine Need.mk (by first | with_reducible exact rng_com _) ?_
        | (fail_if_success with_reducible refine LoopVC.mk ?_
           fail_if_success with_reducible refine Need.mk ?_ ?_
           fail_if_success with_reducible refine CallVC.mk ?_
           fail_if_success with_reducible refine LoopEnd.mk ?_
           fail_if_success with_reducible refine Out.mk ?_
           fail_if_success with_reducible show False
           fail_if_success with_reducible refine NeedI.mk ?_ ?_
           conv => whnf)
      refine Need.mk (eI ?_) ?_
      · rw [com_u32, List.take_length]
      · repeat' first
          | with_reducible refine NeedI.mk (fun h => h) ?_
          | with_reducible refine NeedI.mk (fun h => h.2) ?_
          | with_reducible refine NeedI.mk (fun h => h.1) ?_
          | with_reducible exact Done.mk
          | with_reducible refine Both.mk (fun _ => ?_) (fun _ => ?_)
          | with_reducible refine Both2.mk (fun _ => ?_) ?_
          | with_reducible refine Need.mk (by with_reducible exact CEq.refl _) ?_
          | (fail_if_success with_reducible refine LoopVC.mk ?_
             fail_if_success with_reducible refine Need.mk ?_ ?_
             fail_if_success with_reducible refine CallVC.mk ?_
             fail_if_success with_reducible refine LoopEnd.mk ?_
             fail_if_success with_reducible refine Out.mk ?_
             fail_if_success with_reducible show False
             fail_if_success with_reducible refine NeedI.mk ?_ ?_
             conv => whnf)

/-! the table -/

def e1 (x : BitVec 32) : BitVec 32 := if x &&& 1#32 = 1#32 then (x >>> 1) ^^^ 3988292384#32 else x >>> 1
theorem e1_odd {x : BitVec 32} (h : x &&& 1#32 = 1#32) : e1 x = (x >>> 1) ^^^ 3988292384#32 := if_pos h
theorem e1_even {x : BitVec 32} (h : ¬ x &&& 1#32 = 1#32) : e1 x = x >>> 1 := if_neg h
def ent (n : Nat) : BitVec 32 := Nat.repeat e1 8 (BitVec.ofNat 32 n)
def tabT (n : Nat) : Int := ((ent n).toNat : Int)


theorem and1 (x : BitVec 32) : decide (bitI .and .u32 (x.toNat : Int) 1 = 1) = decide (x &&& 1#32 = 1#32) := by
  rw [show (1 : Int) = ((1#32 : BitVec 32).toNat : Int) from rfl, and_u32]
  congr 1
  apply propext
  constructor
  · intro h; exact BitVec.eq_of_toNat_eq (by omega)
  · intro h; rw [h]

theorem tab_round {i : Nat} (hi : i < 256) {r c : Nat} (hc : c < 1) : CEq (updC (fun r _ => Cell.int .i64 (if r < i then tabT r else 0)) (addN 0 (i : Int).toNat) 0 (.int .i64 (tabT i)) r c) (.int .i64 (if r < i + 1 then tabT r else 0)) := by
  obtain rfl : c = 0 := by omega
  unfold updC
  by_cases h : r = i
  · subst h
    simp [addN_eq]
    exact CEq.refl _
  · have h1 : Nat.beq r (addN 0 (i : Int).toNat) = false := by rw [← Bool.not_eq_true, Nat.beq_eq]; simpa [addN_eq] using h
    rw [h1]
    simp only [cond_false]
    have : (r < i) = (r < i + 1) := by apply propext; omega
    simp only [this]
    exact CEq.refl _

set_option maxHeartbeats 8000000 in
set_option maxRecDepth 100000 in
theorem table_ok {P : Program} {F : Nat → Nat} (K : KSum P F) : FnOk P (F 19) [] [.one (.im (.sl 1 256 fun i _ => .int .i64 (tabT i)))] := by
  refine fnOk K.m K.table ?_
  repeat' first
    | with_reducible refine NeedI.mk (fun h => h) ?_
    | with_reducible refine NeedI.mk (fun h => h.2) ?_
    | with_reducible refine NeedI.mk (fun h => h.1) ?_
    | with_reducible exact Done.mk
    | with_reducible refine Both.mk (fun _ => ?_) (fun _ => ?_)
    | with_reducible refine Both2.mk (fun _ => ?_) ?_
    | with_reducible refine Need.mk (by first | omega | with_reducible exact CEq.refl _) ?_
    | (fail_if_success with_reducible refine LoopVC.mk ?_
       fail_if_success with_reducible refine Need.mk ?_ ?_
       fail_if_success with_reducible refine CallVC.mk ?_
       fail_if_success with_reducible refine LoopEnd.mk ?_
       fail_if_success with_reducible refine Out.mk ?_
       fail_if_success with_reducible show False
       fail_if_success with_reducible refine NeedI.mk ?_ ?_
       conv => whnf)
  refine LoopVC.of (X := {i : Nat // i ≤ 256}) (fun i => stL [(1, .os 5 0 1 0 256), (7, .c (.int .i64 256)), (8, .c (.int .i64 i.1))] [(5, ⟨1, 256, .dat fun r _ => .int .i64 (if r < i.1 then tabT r else 0), false, true⟩)])
    (fun i => 256 - i.1) ⟨0, Nat.zero_le _⟩ (Le.of ⟨⟨rfl, rfl, rfl, rfl, rfl⟩, rfl, rfl, trivial⟩ ⟨⟨_, rfl, SubE.dat fun r _ c hc => ?_⟩, trivial⟩) ?_
  · obtain rfl : c = 0 := by omega
    exact CEq.refl _
  rintro Q hQ ⟨i, hi⟩
  repeat' first
    | with_reducible refine NeedI.mk (fun h => h) ?_
    | with_reducible refine NeedI.mk (fun h => h.2) ?_
    | with_reducible refine NeedI.mk (fun h => h.1) ?_
    | with_reducible exact Done.mk
    | with_reducible refine Both.mk (fun _ => ?_) (fun _ => ?_)
    | with_reducible refine Both2.mk (fun _ => ?_) ?_
    | with_reducible refine Need.mk (by first | omega | with_reducible exact CEq.refl _) ?_
    | (fail_if_success with_reducible refine LoopVC.mk ?_
       fail_if_success with_reducible refine Need.mk ?_ ?_
       fail_if_success with_reducible refine CallVC.mk ?_
       fail_if_success with_reducible refine LoopEnd.mk ?_
       fail_if_success with_reducible refine Out.mk ?_
       fail_if_success with_reducible show False
       fail_if_success with_reducible refine NeedI.mk ?_ ?_
       conv => whnf)
  · rename_i h
    simp only [decide_eq_true_eq] at h
    have hlt : i < 256 := by omega
    refine LoopVC.of (X := {k : Nat // k ≤ 8}) (fun k => stL [(1, .os 5 0 1 0 256), (2, .c (.int .i64 i)), (3, .c (.int .u32 ((Nat.repeat e1 k.1 (BitVec.ofNat 32 i)).toNat : Int))), (7, .c (.int .i64 256)), (8, .c (.int .i64 i)), (13, .c (.int .i64 k.1))] [(5, ⟨1, 256, .dat fun r _ => .int .i64 (if r < i then tabT r else 0), false, true⟩)])
      (fun k => 8 - k.1) ⟨0, Nat.zero_le _⟩ (Le.of ⟨⟨rfl, rfl, rfl, rfl, rfl⟩, rfl, cI ?_, rfl, rfl, rfl, trivial⟩ ⟨⟨_, rfl, SubE.dat fun r _ c hc => CEq.refl _⟩, trivial⟩) ?_
    · rw [wrap_u32']
      show ((BitVec.ofInt 32 (i : Int)).toNat : Int) = ((BitVec.ofNat 32 i).toNat : Int)
      rw [BitVec.ofInt_natCast]
    rintro Q2 hQ2 ⟨k, hk⟩
    repeat' first
      | with_reducible refine NeedI.mk (fun h => h) ?_
      | with_reducible refine NeedI.mk (fun h => h.2) ?_
      | with_reducible refine NeedI.mk (fun h => h.1) ?_
      | with_reducible exact Done.mk
      | with_reducible refine Both.mk (fun _ => ?_) (fun _ => ?_)
      | with_reducible refine Both2.mk (fun _ => ?_) ?_
      | with_reducible refine Need.mk (by first | omega | with_reducible exact bv32_i64 _ | with_reducible exact CEq.refl _ | (simp only [decide_eq_true_eq, decide_eq_false_iff_not, rng] at *; omega)) ?_
      | (fail_if_success with_reducible refine LoopVC.mk ?_
         fail_if_success with_reducible refine Need.mk ?_ ?_
         fail_if_success with_reducible refine CallVC.mk ?_
         fail_if_success with_reducible refine LoopEnd.mk ?_
         fail_if_success with_reducible refine Out.mk ?_
         fail_if_success with_reducible show False
         fail_if_success with_reducible refine NeedI.mk ?_ ?_
         conv => whnf)
    · rename_i h1 h2
      rw [and1] at h2
      simp only [decide_eq_true_eq] at h1 h2
      have hk1 : k + 1 ≤ 8 := by omega
      refine LoopEnd.mk ?_
      refine ⟨⟨k + 1, hk1⟩, by show 8 - (k + 1) < 8 - k; omega, Le.of ⟨⟨rfl, rfl, rfl, rfl, rfl⟩, rfl, cI ?_, rfl, rfl, cI (by simp), trivial⟩ ⟨⟨_, rfl, SubE.dat fun r _ c hc => CEq.refl _⟩, trivial⟩⟩
      rw [show (1 : Int) = ((1 : Nat) : Int) from rfl, shr_u32 _ 1 (by omega), show (3988292384 : Int) = ((3988292384#32 : BitVec 32).toNat : Int) from rfl, xor_u32]
      show _ = ((e1 (Nat.repeat e1 k (BitVec.ofNat 32 i))).toNat : Int)
      rw [e1_odd h2]
    · rename_i h1 h2
      rw [and1] at h2
      simp only [decide_eq_true_eq, decide_eq_false_iff_not] at h1 h2
      have hk1 : k + 1 ≤ 8 := by omega
      refine LoopEnd.mk ?_
      refine ⟨⟨k + 1, hk1⟩, by show 8 - (k + 1) < 8 - k; omega, Le.of ⟨⟨rfl, rfl, rfl, rfl, rfl⟩, rfl, cI ?_, rfl, rfl, cI (by simp), trivial⟩ ⟨⟨_, rfl, SubE.dat fun r _ c hc => CEq.refl _⟩, trivial⟩⟩
      rw [show (1 : Int) = ((1 : Nat) : Int) from rfl, shr_u32 _ 1 (by omega)]
      show _ = ((e1 (Nat.repeat e1 k (BitVec.ofNat 32 i))).toNat : Int)
      rw [e1_even h2]
    · rename_i h1
      simp only [decide_eq_false_iff_not] at h1
      obtain rfl : k = 8 := by omega
      refine Out.mk (hQ2 _ _ ?_)
      repeat' first
        | with_reducible refine NeedI.mk (fun h => h) ?_
        | with_reducible refine NeedI.mk (fun h => h.2) ?_
        | with_reducible refine NeedI.mk (fun h => h.1) ?_
        | with_reducible exact Done.mk
        | with_reducible refine Both.mk (fun _ => ?_) (fun _ => ?_)
        | with_reducible refine Both2.mk (fun _ => ?_) ?_
        | with_reducible refine Need.mk (by first | omega | with_reducible exact bv32_i64 _ | (simp only [rng]; omega) | (simp only [addN_eq, Nat.zero_add, Int.toNat_natCast]; omega)) ?_
        | (fail_if_success with_reducible refine LoopVC.mk ?_
           fail_if_success with_reducible refine Need.mk ?_ ?_
           fail_if_success with_reducible refine CallVC.mk ?_
           fail_if_success with_reducible refine LoopEnd.mk ?_
           fail_if_success with_reducible refine Out.mk ?_
           fail_if_success with_reducible show False
           fail_if_success with_reducible refine NeedI.mk ?_ ?_
           conv => whnf)
      refine LoopEnd.mk ?_
      refine ⟨⟨i + 1, hlt⟩, by show 256 - (i + 1) < 256 - i; omega, Le.of ⟨⟨rfl, rfl, rfl, rfl, rfl⟩, rfl, cI (by simp), trivial⟩ ⟨⟨_, rfl, SubE.dat fun r _ c hc => tab_round hlt hc⟩, trivial⟩⟩
  · rename_i h
    simp only [decide_eq_false_iff_not] at h
    obtain rfl : i = 256 := by omega
    refine Out.mk (hQ _ _ ?_)
    repeat' first
      | with_reducible refine NeedI.mk (fun h => h) ?_
      | with_reducible refine NeedI.mk (fun h => h.2) ?_
      | with_reducible refine NeedI.mk (fun h => h.1) ?_
      | with_reducible exact Done.mk
      | with_reducible refine Both.mk (fun _ => ?_) (fun _ => ?_)
      | with_reducible refine Both2.mk (fun _ => ?_) ?_
      | with_reducible refine Need.mk (by first | omega | with_reducible exact CEq.refl _) ?_
      | (fail_if_success with_reducible refine LoopVC.mk ?_
         fail_if_success with_reducible refine Need.mk ?_ ?_
         fail_if_success with_reducible refine CallVC.mk ?_
         fail_if_success with_reducible refine LoopEnd.mk ?_
         fail_if_success with_reducible refine Out.mk ?_
         fail_if_success with_reducible show False
         fail_if_success with_reducible refine NeedI.mk ?_ ?_
         conv => whnf)
    refine Need.mk (CEq.slice fun r hr c hc => ?_) ?_
    · simp only [addN_eq, Nat.zero_add]
      rw [if_pos hr]
      exact CEq.refl _
    · repeat' first
        | with_reducible refine NeedI.mk (fun h => h) ?_
        | with_reducible refine NeedI.mk (fun h => h.2) ?_
        | with_reducible refine NeedI.mk (fun h => h.1) ?_
        | with_reducible exact Done.mk
        | with_reducible refine Both.mk (fun _ => ?_) (fun _ => ?_)
        | with_reducible refine Both2.mk (fun _ => ?_) ?_
        | with_reducible refine Need.mk (by first | omega | with_reducible exact CEq.refl _) ?_
        | (fail_if_success with_reducible refine LoopVC.mk ?_
           fail_if_success with_reducible refine Need.mk ?_ ?_
           fail_if_success with_reducible refine CallVC.mk ?_
           fail_if_success with_reducible refine LoopEnd.mk ?_
           fail_if_success with_reducible refine Out.mk ?_
           fail_if_success with_reducible show False
           fail_if_success with_reducible refine NeedI.mk ?_ ?_
           conv => whnf)
end Lk.S01
