/-
  Gs01a: what these chapters need.
-/
import Derived.Test.YtihjalnebgjmgaaCCc
import Derived.Test.YtihjalnebgjmgaaLkC
set_option linter.unusedSimpArgs false
set_option linter.unusedVariables false
namespace Lk.S01
open Go Lk Lk.C
structure KSum (P : Program) (F : Nat → Nat) : Prop where
  m : P.follows .mixedOrders = true
  sum : sum_Sum_k P F
  table : sum_Table_k P F
/-- One byte more. -/
def stp (T : Nat → Int) (x : BitVec 32) (b : UInt8) : BitVec 32 :=
  BitVec.ofInt 32 (T (x.setWidth 8 ^^^ b.toBitVec).toNat) ^^^ (x >>> 8)
def sumS (T : Nat → Int) (s : List UInt8) : BitVec 32 := s.foldl (stp T) 4294967295#32
theorem u8bv (b : UInt8) : (b.toNat : Int) = (b.toBitVec.toNat : Int) := rfl
theorem bv8_range (x : BitVec 8) : 0 ≤ (x.toNat : Int) ∧ (x.toNat : Int) < ((256 : Nat) : Int) := by have := x.isLt; omega
theorem bv32_i64 (x : BitVec 32) : rng .i64 (x.toNat : Int) := by have := x.isLt; unfold rng; omega
theorem ix8 (x : BitVec 32) (b : UInt8) : 0 ≤ bitI .xor .u8 (wrapI .u8 (x.toNat : Int)) (b.toNat : Int) ∧ bitI .xor .u8 (wrapI .u8 (x.toNat : Int)) (b.toNat : Int) < ((256 : Nat) : Int) := by
  simp only [wrap_u8_32, u8bv, xor_u8]; exact bv8_range _
theorem rng_com (x : BitVec 32) : rng .i64 (comI .u32 (x.toNat : Int)) := by rw [com_u32]; exact bv32_i64 _
theorem sumS_snoc (T : Nat → Int) (s : List UInt8) (i : Nat) (hi : i < s.length) : sumS T (s.take (i + 1)) = stp T (sumS T (s.take i)) (s.getD i 0) := by
  unfold sumS
  rw [List.take_succ_eq_append_getElem hi, List.foldl_append, List.getD_eq_getElem?_getD, List.getElem?_eq_getElem hi]
  rfl
set_option maxHeartbeats 8000000 in
set_option maxRecDepth 100000 in
theorem sum_ok {P : Program} {F : Nat → Nat} (K : KSum P F) (T : Nat → Int) (s : List UInt8) (hs : s.length ≤ 1000000) :
    FnOk P (F 21) [.one (.sl 1 256 fun i _ => .int .i64 (T i)), .one (.str s)] [.one (.im (.int .i64 ((~~~ sumS T s).toNat : Int))), .one (.im (.bool true))] := by
  refine fnOk K.m K.sum ?_
  repeat' first
    | (with_reducible first | refine NeedI.mk (fun h => h) ?_ | refine NeedI.mk (fun h => h.2) ?_ | refine NeedI.mk (fun h => h.1) ?_ | exact Done.mk | refine Both.mk (fun _ => ?_) (fun _ => ?_) | refine Both2.mk (fun _ => ?_) ?_ | refine Need.mk (by first | omega | with_reducible exact CEq.refl _ | (intro _; omega) | (simp only [decide_eq_true_eq, decide_eq_false_iff_not, Bool.or_eq_true, Bool.and_eq_true, Bool.or_eq_false_iff, Int.toNat_natCast, addN_eq, cond_false, cond_true, rng] at *; omega) | (intro _; simp only [decide_eq_true_eq, decide_eq_false_iff_not, Bool.or_eq_true, Bool.and_eq_true, Bool.or_eq_false_iff, Int.toNat_natCast, addN_eq, cond_false, cond_true, rng] at *; omega)) ?_)
    | ((with_reducible fail_if_success first | refine LoopVC.mk ?_ | refine Need.mk ?_ ?_ | refine CallVC.mk ?_ | refine LoopEnd.mk ?_ | refine Out.mk ?_ | show False | refine NeedI.mk ?_ ?_); conv => whnf)
  · rename_i h
    simp at h
  · refine LoopVC.of (X := {i : Nat // i ≤ s.length}) (fun i => stL [(0, .c (.sl 1 256 fun i _ => .int .i64 (T i))), (1, .c (.str s)), (6, .c (.int .u32 ((sumS T (s.take i.1)).toNat : Int))), (7, .c (.int .i64 i.1))] [])
      (fun i => s.length - i.1) ⟨0, Nat.zero_le _⟩ (Le.of ⟨CEq.refl _, rfl, rfl, rfl, trivial⟩ trivial) ?_
    rintro Q hQ ⟨i, hi⟩
    repeat' first
      | (with_reducible first | refine NeedI.mk (fun h => h) ?_ | refine NeedI.mk (fun h => h.2) ?_ | refine NeedI.mk (fun h => h.1) ?_ | exact Done.mk | refine Both.mk (fun _ => ?_) (fun _ => ?_) | refine Both2.mk (fun _ => ?_) ?_ | refine Need.mk (by first | with_reducible exact ix8 _ _ | with_reducible exact rng_com _ | with_reducible exact CEq.refl _ | (simp only [decide_eq_true_eq, decide_eq_false_iff_not, rng] at *; omega)) ?_)
      | ((with_reducible fail_if_success first | refine LoopVC.mk ?_ | refine Need.mk ?_ ?_ | refine CallVC.mk ?_ | refine LoopEnd.mk ?_ | refine Out.mk ?_ | show False | refine NeedI.mk ?_ ?_); conv => whnf)
    · rename_i h
      simp only [decide_eq_true_eq] at h
      have hlt : i < s.length := by omega
      refine LoopEnd.mk ?_
      refine ⟨⟨i + 1, hlt⟩, by show s.length - (i + 1) < s.length - i; omega, Le.of ⟨CEq.refl _, rfl, cI ?_, cI (by simp), trivial⟩ trivial⟩
      simp only [wrap_u8_32, u8bv, xor_u8, wrap_u32', Int.toNat_natCast]
      rw [show (8 : Int) = ((8 : Nat) : Int) from rfl, shr_u32 _ 8 (by omega), xor_u32, sumS_snoc T s i hlt]
      rfl
    · rename_i h
      simp only [decide_eq_false_iff_not] at h
      have hlt : i = s.length := by omega
      subst hlt
      refine Out.mk (hQ _ _ ?_)
      repeat' first
        | (with_reducible first | refine NeedI.mk (fun h => h) ?_ | refine NeedI.mk (fun h => h.2) ?_ | refine NeedI.mk (fun h => h.1) ?_ | exact Done.mk | refine Both.mk (fun _ => ?_) (fun _ => ?_) | refine Both2.mk (fun _ => ?_) ?_ | refine Need.mk (by first | with_reducible exact rng_com _) ?_)
        | ((with_reducible fail_if_success first | refine LoopVC.mk ?_ | refine Need.mk ?_ ?_ | refine CallVC.mk ?_ | refine LoopEnd.mk ?_ | refine Out.mk ?_ | show False | refine NeedI.mk ?_ ?_); conv => whnf)
      refine Need.mk (eI ?_) ?_
      · rw [com_u32, List.take_length]
      · repeat' first
          | (with_reducible first | refine NeedI.mk (fun h => h) ?_ | refine NeedI.mk (fun h => h.2) ?_ | refine NeedI.mk (fun h => h.1) ?_ | exact Done.mk | refine Both.mk (fun _ => ?_) (fun _ => ?_) | refine Both2.mk (fun _ => ?_) ?_ | refine Need.mk (by with_reducible exact CEq.refl _) ?_)
          | ((with_reducible fail_if_success first | refine LoopVC.mk ?_ | refine Need.mk ?_ ?_ | refine CallVC.mk ?_ | refine LoopEnd.mk ?_ | refine Out.mk ?_ | show False | refine NeedI.mk ?_ ?_); conv => whnf)
/-! the table -/

def e1 (x : BitVec 32) : BitVec 32 := if x &&& 1#32 = 1#32 then (x >>> 1) ^^^ 3988292384#32 else x >>> 1
theorem e1_odd {x : BitVec 32} (h : x &&& 1#32 = 1#32) : e1 x = (x >>> 1) ^^^ 3988292384#32 := if_pos h
theorem e1_even {x : BitVec 32} (h : ¬ x &&& 1#32 = 1#32) : e1 x = x >>> 1 := if_neg h
def ent (n : Nat) : BitVec 32 := Nat.repeat e1 8 (BitVec.ofNat 32 n)
def tabT (n : Nat) : Int := ((ent n).toNat : Int)
theorem and1 (x : BitVec 32) : decide (bitI .and .u32 (x.toNat : Int) 1 = 1) = decide (x &&& 1#32 = 1#32) := by
  rw [show (1 : Int) = ((1#32 : BitVec 32).toNat : Int) from rfl, and_u32]
  congr 1
  apply propext
  constructor
  · intro h; exact BitVec.eq_of_toNat_eq (by omega)
  · intro h; rw [h]
theorem tab_round {i : Nat} (hi : i < 256) {r c : Nat} (hc : c < 1) : CEq (updC (fun r _ => Cell.int .i64 (if r < i then tabT r else 0)) (addN 0 (i : Int).toNat) 0 (.int .i64 (tabT i)) r c) (.int .i64 (if r < i + 1 then tabT r else 0)) := by
  obtain rfl : c = 0 := by omega
  unfold updC
  by_cases h : r = i
  · subst h
    simp [addN_eq]
    exact CEq.refl _
  · have h1 : Nat.beq r (addN 0 (i : Int).toNat) = false := by rw [← Bool.not_eq_true, Nat.beq_eq]; simpa [addN_eq] using h
    rw [h1]
    simp only [cond_false]
    have : (r < i) = (r < i + 1) := by apply propext; omega
    simp only [this]
    exact CEq.refl _
set_option maxHeartbeats 8000000 in
set_option maxRecDepth 100000 in
theorem table_ok {P : Program} {F : Nat → Nat} (K : KSum P F) : FnOk P (F 19) [] [.one (.im (.sl 1 256 fun i _ => .int .i64 (tabT i)))] := by
  refine fnOk K.m K.table ?_
  repeat' first
    | (with_reducible first | refine NeedI.mk (fun h => h) ?_ | refine NeedI.mk (fun h => h.2) ?_ | refine NeedI.mk (fun h => h.1) ?_ | exact Done.mk | refine Both.mk (fun _ => ?_) (fun _ => ?_) | refine Both2.mk (fun _ => ?_) ?_ | refine Need.mk (by first | omega | with_reducible exact CEq.refl _) ?_)
    | ((with_reducible fail_if_success first | refine LoopVC.mk ?_ | refine Need.mk ?_ ?_ | refine CallVC.mk ?_ | refine LoopEnd.mk ?_ | refine Out.mk ?_ | show False | refine NeedI.mk ?_ ?_); conv => whnf)
  refine LoopVC.of (X := {i : Nat // i ≤ 256}) (fun i => stL [(1, .os 5 0 1 0 256), (7, .c (.int .i64 256)), (8, .c (.int .i64 i.1))] [(5, ⟨1, 256, .dat fun r _ => .int .i64 (if r < i.1 then tabT r else 0), false, true⟩)])
    (fun i => 256 - i.1) ⟨0, Nat.zero_le _⟩ (Le.of ⟨⟨rfl, rfl, rfl, rfl, rfl⟩, rfl, rfl, trivial⟩ ⟨⟨_, rfl, SubE.dat fun r _ c hc => ?_⟩, trivial⟩) ?_
  · obtain rfl : c = 0 := by omega
    exact CEq.refl _
  rintro Q hQ ⟨i, hi⟩
  repeat' first
    | (with_reducible first | refine NeedI.mk (fun h => h) ?_ | refine NeedI.mk (fun h => h.2) ?_ | refine NeedI.mk (fun h => h.1) ?_ | exact Done.mk | refine Both.mk (fun _ => ?_) (fun _ => ?_) | refine Both2.mk (fun _ => ?_) ?_ | refine Need.mk (by first | omega | with_reducible exact CEq.refl _) ?_)
    | ((with_reducible fail_if_success first | refine LoopVC.mk ?_ | refine Need.mk ?_ ?_ | refine CallVC.mk ?_ | refine LoopEnd.mk ?_ | refine Out.mk ?_ | show False | refine NeedI.mk ?_ ?_); conv => whnf)
  · rename_i h
    simp only [decide_eq_true_eq] at h
    have hlt : i < 256 := by omega
    refine LoopVC.of (X := {k : Nat // k ≤ 8}) (fun k => stL [(1, .os 5 0 1 0 256), (2, .c (.int .i64 i)), (3, .c (.int .u32 ((Nat.repeat e1 k.1 (BitVec.ofNat 32 i)).toNat : Int))), (7, .c (.int .i64 256)), (8, .c (.int .i64 i)), (13, .c (.int .i64 k.1))] [(5, ⟨1, 256, .dat fun r _ => .int .i64 (if r < i then tabT r else 0), false, true⟩)])
      (fun k => 8 - k.1) ⟨0, Nat.zero_le _⟩ (Le.of ⟨⟨rfl, rfl, rfl, rfl, rfl⟩, rfl, cI ?_, rfl, rfl, rfl, trivial⟩ ⟨⟨_, rfl, SubE.dat fun r _ c hc => CEq.refl _⟩, trivial⟩) ?_
    · rw [wrap_u32']
      show ((BitVec.ofInt 32 (i : Int)).toNat : Int) = ((BitVec.ofNat 32 i).toNat : Int)
      rw [BitVec.ofInt_natCast]
    rintro Q2 hQ2 ⟨k, hk⟩
    repeat' first
      | (with_reducible first | refine NeedI.mk (fun h => h) ?_ | refine NeedI.mk (fun h => h.2) ?_ | refine NeedI.mk (fun h => h.1) ?_ | exact Done.mk | refine Both.mk (fun _ => ?_) (fun _ => ?_) | refine Both2.mk (fun _ => ?_) ?_ | refine Need.mk (by first | omega | with_reducible exact bv32_i64 _ | with_reducible exact CEq.refl _ | (simp only [decide_eq_true_eq, decide_eq_false_iff_not, rng] at *; omega)) ?_)
      | ((with_reducible fail_if_success first | refine LoopVC.mk ?_ | refine Need.mk ?_ ?_ | refine CallVC.mk ?_ | refine LoopEnd.mk ?_ | refine Out.mk ?_ | show False | refine NeedI.mk ?_ ?_); conv => whnf)
    · rename_i h1 h2
      rw [and1] at h2
      simp only [decide_eq_true_eq] at h1 h2
      have hk1 : k + 1 ≤ 8 := by omega
      refine LoopEnd.mk ?_
      refine ⟨⟨k + 1, hk1⟩, by show 8 - (k + 1) < 8 - k; omega, Le.of ⟨⟨rfl, rfl, rfl, rfl, rfl⟩, rfl, cI ?_, rfl, rfl, cI (by simp), trivial⟩ ⟨⟨_, rfl, SubE.dat fun r _ c hc => CEq.refl _⟩, trivial⟩⟩
      rw [show (1 : Int) = ((1 : Nat) : Int) from rfl, shr_u32 _ 1 (by omega), show (3988292384 : Int) = ((3988292384#32 : BitVec 32).toNat : Int) from rfl, xor_u32]
      show _ = ((e1 (Nat.repeat e1 k (BitVec.ofNat 32 i))).toNat : Int)
      rw [e1_odd h2]
    · rename_i h1 h2
      rw [and1] at h2
      simp only [decide_eq_true_eq, decide_eq_false_iff_not] at h1 h2
      have hk1 : k + 1 ≤ 8 := by omega
      refine LoopEnd.mk ?_
      refine ⟨⟨k + 1, hk1⟩, by show 8 - (k + 1) < 8 - k; omega, Le.of ⟨⟨rfl, rfl, rfl, rfl, rfl⟩, rfl, cI ?_, rfl, rfl, cI (by simp), trivial⟩ ⟨⟨_, rfl, SubE.dat fun r _ c hc => CEq.refl _⟩, trivial⟩⟩
      rw [show (1 : Int) = ((1 : Nat) : Int) from rfl, shr_u32 _ 1 (by omega)]
      show _ = ((e1 (Nat.repeat e1 k (BitVec.ofNat 32 i))).toNat : Int)
      rw [e1_even h2]
    · rename_i h1
      simp only [decide_eq_false_iff_not] at h1
      obtain rfl : k = 8 := by omega
      refine Out.mk (hQ2 _ _ ?_)
      repeat' first
        | (with_reducible first | refine NeedI.mk (fun h => h) ?_ | refine NeedI.mk (fun h => h.2) ?_ | refine NeedI.mk (fun h => h.1) ?_ | exact Done.mk | refine Both.mk (fun _ => ?_) (fun _ => ?_) | refine Both2.mk (fun _ => ?_) ?_ | refine Need.mk (by first | omega | with_reducible exact bv32_i64 _ | (simp only [rng]; omega) | (simp only [addN_eq, Nat.zero_add, Int.toNat_natCast]; omega)) ?_)
        | ((with_reducible fail_if_success first | refine LoopVC.mk ?_ | refine Need.mk ?_ ?_ | refine CallVC.mk ?_ | refine LoopEnd.mk ?_ | refine Out.mk ?_ | show False | refine NeedI.mk ?_ ?_); conv => whnf)
      refine LoopEnd.mk ?_
      refine ⟨⟨i + 1, hlt⟩, by show 256 - (i + 1) < 256 - i; omega, Le.of ⟨⟨rfl, rfl, rfl, rfl, rfl⟩, rfl, cI (by simp), trivial⟩ ⟨⟨_, rfl, SubE.dat fun r _ c hc => tab_round hlt hc⟩, trivial⟩⟩
  · rename_i h
    simp only [decide_eq_false_iff_not] at h
    obtain rfl : i = 256 := by omega
    refine Out.mk (hQ _ _ ?_)
    repeat' first
      | (with_reducible first | refine NeedI.mk (fun h => h) ?_ | refine NeedI.mk (fun h => h.2) ?_ | refine NeedI.mk (fun h => h.1) ?_ | exact Done.mk | refine Both.mk (fun _ => ?_) (fun _ => ?_) | refine Both2.mk (fun _ => ?_) ?_ | refine Need.mk (by first | omega | with_reducible exact CEq.refl _) ?_)
      | ((with_reducible fail_if_success first | refine LoopVC.mk ?_ | refine Need.mk ?_ ?_ | refine CallVC.mk ?_ | refine LoopEnd.mk ?_ | refine Out.mk ?_ | show False | refine NeedI.mk ?_ ?_); conv => whnf)
    refine Need.mk (CEq.slice fun r hr c hc => ?_) ?_
    · simp only [addN_eq, Nat.zero_add]
      rw [if_pos hr]
      exact CEq.refl _
    · repeat' first
        | (with_reducible first | refine NeedI.mk (fun h => h) ?_ | refine NeedI.mk (fun h => h.2) ?_ | refine NeedI.mk (fun h => h.1) ?_ | exact Done.mk | refine Both.mk (fun _ => ?_) (fun _ => ?_) | refine Both2.mk (fun _ => ?_) ?_ | refine Need.mk (by first | omega | with_reducible exact CEq.refl _) ?_)
        | ((with_reducible fail_if_success first | refine LoopVC.mk ?_ | refine Need.mk ?_ ?_ | refine CallVC.mk ?_ | refine LoopEnd.mk ?_ | refine Out.mk ?_ | show False | refine NeedI.mk ?_ ?_); conv => whnf)
end Lk.S01
namespace Lk.S01
open Go Lk Lk.C
set_option maxHeartbeats 8000000 in
set_option maxRecDepth 100000 in
theorem sum_none {P : Program} {F : Nat → Nat} (K : KSum P F) (n z : Nat) (f : Nat → Nat → Cell) (hn : n ≠ 256) (s : List UInt8) :
    FnOk P (F 21) [.one (.sl z n f), .one (.str s)] [.one (.im (.int .i64 0)), .one (.im (.bool false))] := by
  refine fnOk K.m K.sum ?_
  repeat' first
    | (with_reducible first | refine NeedI.mk (fun h => h) ?_ | refine NeedI.mk (fun h => h.2) ?_ | refine NeedI.mk (fun h => h.1) ?_ | exact Done.mk | refine Both.mk (fun _ => ?_) (fun _ => ?_) | refine Both2.mk (fun _ => ?_) ?_ | refine Need.mk (by first | omega | with_reducible exact CEq.refl _) ?_)
    | ((with_reducible fail_if_success first | refine LoopVC.mk ?_ | refine Need.mk ?_ ?_ | refine CallVC.mk ?_ | refine LoopEnd.mk ?_ | refine Out.mk ?_ | show False | refine NeedI.mk ?_ ?_); conv => whnf)
  rename_i h
  simp at h
  omega
theorem known : ((~~~ sumS tabT [49, 50, 51, 52, 53, 54, 55, 56, 57]).toNat : Int) = 3421780262 := by decide +kernel
set_option maxHeartbeats 8000000 in
set_option maxRecDepth 100000 in
theorem awake_ok {P : Program} {F : Nat → Nat} (K : KSum P F) (hk : law01_awake_k P F) : FnOk P (F 18) [] [.one (.im (.bool true))] := by
  refine fnOk K.m hk ?_
  repeat' first
    | (with_reducible first | refine NeedI.mk (fun h => h) ?_ | refine NeedI.mk (fun h => h.2) ?_ | refine NeedI.mk (fun h => h.1) ?_ | exact Done.mk | refine Both.mk (fun _ => ?_) (fun _ => ?_) | refine Both2.mk (fun _ => ?_) ?_ | refine Need.mk (by first | omega | with_reducible exact CEq.refl _) ?_)
    | ((with_reducible fail_if_success first | refine LoopVC.mk ?_ | refine Need.mk ?_ ?_ | refine CallVC.mk ?_ | refine LoopEnd.mk ?_ | refine Out.mk ?_ | show False | refine NeedI.mk ?_ ?_); conv => whnf)
  refine CallVC.mk' (fun _ => table_ok K) (fun _ => .nil) ?_
  repeat' first
    | (with_reducible first | refine NeedI.mk (fun h => h) ?_ | refine NeedI.mk (fun h => h.2) ?_ | refine NeedI.mk (fun h => h.1) ?_ | exact Done.mk | refine Both.mk (fun _ => ?_) (fun _ => ?_) | refine Both2.mk (fun _ => ?_) ?_ | refine Need.mk (by first | omega | with_reducible exact CEq.refl _) ?_)
    | ((with_reducible fail_if_success first | refine LoopVC.mk ?_ | refine Need.mk ?_ ?_ | refine CallVC.mk ?_ | refine LoopEnd.mk ?_ | refine Out.mk ?_ | show False | refine NeedI.mk ?_ ?_); conv => whnf)
  refine CallVC.mk' (fun _ => sum_ok K tabT _ (by decide)) (fun _ => .cons (.one (CEq.refl _)) (.cons (.one (CEq.refl _)) .nil)) ?_
  repeat' first
    | (with_reducible first | refine NeedI.mk (fun h => h) ?_ | refine NeedI.mk (fun h => h.2) ?_ | refine NeedI.mk (fun h => h.1) ?_ | exact Done.mk | refine Both.mk (fun _ => ?_) (fun _ => ?_) | refine Both2.mk (fun _ => ?_) ?_ | refine Need.mk (by first | omega | with_reducible exact CEq.refl _) ?_)
    | ((with_reducible fail_if_success first | refine LoopVC.mk ?_ | refine Need.mk ?_ ?_ | refine CallVC.mk ?_ | refine LoopEnd.mk ?_ | refine Out.mk ?_ | show False | refine NeedI.mk ?_ ?_); conv => whnf)
  refine CallVC.mk' (fun _ => sum_none K 0 1 _ (by decide) _) (fun _ => .cons (.one (CEq.refl _)) (.cons (.one (CEq.refl _)) .nil)) ?_
  repeat' first
    | (with_reducible first | refine NeedI.mk (fun h => h) ?_ | refine NeedI.mk (fun h => h.2) ?_ | refine NeedI.mk (fun h => h.1) ?_ | exact Done.mk | refine Both.mk (fun _ => ?_) (fun _ => ?_) | refine Both2.mk (fun _ => ?_) ?_ | refine Need.mk (by first | omega | with_reducible exact CEq.refl _) ?_)
    | ((with_reducible fail_if_success first | refine LoopVC.mk ?_ | refine Need.mk ?_ ?_ | refine CallVC.mk ?_ | refine LoopEnd.mk ?_ | refine Out.mk ?_ | show False | refine NeedI.mk ?_ ?_); conv => whnf)
  refine Need.mk (eB ?_) ?_
  · rw [known]; rfl
  · repeat' first
      | (with_reducible first | refine NeedI.mk (fun h => h) ?_ | refine NeedI.mk (fun h => h.2) ?_ | refine NeedI.mk (fun h => h.1) ?_ | exact Done.mk | refine Both.mk (fun _ => ?_) (fun _ => ?_) | refine Both2.mk (fun _ => ?_) ?_ | refine Need.mk (by with_reducible exact CEq.refl _) ?_)
      | ((with_reducible fail_if_success first | refine LoopVC.mk ?_ | refine Need.mk ?_ ?_ | refine CallVC.mk ?_ | refine LoopEnd.mk ?_ | refine Out.mk ?_ | show False | refine NeedI.mk ?_ ?_); conv => whnf)
theorem e1_rem {x : BitVec 32} : decide ((x.toNat : Int) % 2 = 1) = decide (x &&& 1#32 = 1#32) := by
  congr 1
  apply propext
  rw [← BitVec.toNat_inj]
  simp only [BitVec.toNat_and, BitVec.toNat_ofNat, Nat.reducePow, Nat.reduceMod, Nat.and_one_is_mod]
  omega
theorem half_u32 (x : BitVec 32) : (x.toNat : Int) / (2 : Int) = ((x >>> 1).toNat : Int) := by
  simp [Nat.shiftRight_eq_div_pow]
end Lk.S01
namespace Lk.S01
open Go Lk Lk.C
def refStp (x : BitVec 32) (b : UInt8) : BitVec 32 := Nat.repeat e1 8 (x ^^^ b.toBitVec.setWidth 32)
def refS (s : List UInt8) : BitVec 32 := s.foldl refStp 4294967295#32
theorem refS_snoc (s : List UInt8) (i : Nat) (hi : i < s.length) : refS (s.take (i + 1)) = refStp (refS (s.take i)) (s.getD i 0) := by
  unfold refS
  rw [List.take_succ_eq_append_getElem hi, List.foldl_append, List.getD_eq_getElem?_getD, List.getElem?_eq_getElem hi]
  rfl
theorem xorb (x : BitVec 32) (b : UInt8) : bitI .xor .u32 (x.toNat : Int) (b.toNat : Int) = ((x ^^^ b.toBitVec.setWidth 32).toNat : Int) := by
  rw [← xor_u32]
  congr 1
theorem u8_u32 (b : UInt8) : rng .u32 (b.toNat : Int) := by have := b.toNat_lt; simp only [rng]; omega
theorem u32_half (x : BitVec 32) : rng .u32 ((x.toNat : Int) / (2 : Int)) := by have := x.isLt; simp only [rng]; omega
theorem u32_pos (x : BitVec 32) : 0 ≤ (x.toNat : Int) ∧ (0 : Int) < 2 := by omega
set_option maxHeartbeats 8000000 in
set_option maxRecDepth 100000 in
theorem ref_ok {P : Program} {F : Nat → Nat} (hm : P.follows .mixedOrders = true) (hk : ref01_Sum_k P F) (s : List UInt8) (hs : s.length ≤ 1000000) : FnOk P (F 22) [.one (.str s)] [.one (.im (.int .i64 ((~~~ refS s).toNat : Int)))] := by
  refine fnOk hm hk ?_
  repeat' first
    | (with_reducible first | refine NeedI.mk (fun h => h) ?_ | refine NeedI.mk (fun h => h.2) ?_ | refine NeedI.mk (fun h => h.1) ?_ | exact Done.mk | refine Both.mk (fun _ => ?_) (fun _ => ?_) | refine Both2.mk (fun _ => ?_) ?_ | refine Need.mk (by first | omega | with_reducible exact CEq.refl _) ?_)
    | ((with_reducible fail_if_success first | refine LoopVC.mk ?_ | refine Need.mk ?_ ?_ | refine CallVC.mk ?_ | refine LoopEnd.mk ?_ | refine Out.mk ?_ | show False | refine NeedI.mk ?_ ?_); conv => whnf)
  refine LoopVC.of (X := {i : Nat // i ≤ s.length}) (fun i => stL [(0, .c (.str s)), (3, .c (.int .u32 ((refS (s.take i.1)).toNat : Int))), (4, .c (.int .i64 i.1))] [])
    (fun i => s.length - i.1) ⟨0, Nat.zero_le _⟩ (Le.of ⟨rfl, rfl, rfl, trivial⟩ trivial) ?_
  rintro Q hQ ⟨i, hi⟩
  repeat' first
    | (with_reducible first | refine NeedI.mk (fun h => h) ?_ | refine NeedI.mk (fun h => h.2) ?_ | refine NeedI.mk (fun h => h.1) ?_ | exact Done.mk | refine Both.mk (fun _ => ?_) (fun _ => ?_) | refine Both2.mk (fun _ => ?_) ?_ | refine Need.mk (by first | with_reducible exact u8_u32 _ | with_reducible exact CEq.refl _ | (simp only [decide_eq_true_eq, decide_eq_false_iff_not, rng] at *; omega)) ?_)
    | ((with_reducible fail_if_success first | refine LoopVC.mk ?_ | refine Need.mk ?_ ?_ | refine CallVC.mk ?_ | refine LoopEnd.mk ?_ | refine Out.mk ?_ | show False | refine NeedI.mk ?_ ?_); conv => whnf)
  · rename_i h
    simp only [decide_eq_true_eq] at h
    have hlt : i < s.length := by omega
    refine LoopVC.of (X := {k : Nat // k ≤ 8}) (fun k => stL [(0, .c (.str s)), (3, .c (.int .u32 ((Nat.repeat e1 k.1 (refS (s.take i) ^^^ (s.getD i 0).toBitVec.setWidth 32)).toNat : Int))), (4, .c (.int .i64 i)), (5, .c (.int .i64 k.1))] [])
      (fun k => 8 - k.1) ⟨0, Nat.zero_le _⟩ (Le.of ⟨rfl, cI ?_, rfl, rfl, trivial⟩ trivial) ?_
    · rw [xorb]; rfl
    rintro Q2 hQ2 ⟨k, hk⟩
    repeat' first
      | (with_reducible first | refine NeedI.mk (fun h => h) ?_ | refine NeedI.mk (fun h => h.2) ?_ | refine NeedI.mk (fun h => h.1) ?_ | exact Done.mk | refine Both.mk (fun _ => ?_) (fun _ => ?_) | refine Both2.mk (fun _ => ?_) ?_ | refine Need.mk (by first | with_reducible exact u32_half _ | with_reducible exact u32_pos _ | with_reducible exact CEq.refl _ | (simp only [decide_eq_true_eq, decide_eq_false_iff_not, rng] at *; omega)) ?_)
      | ((with_reducible fail_if_success first | refine LoopVC.mk ?_ | refine Need.mk ?_ ?_ | refine CallVC.mk ?_ | refine LoopEnd.mk ?_ | refine Out.mk ?_ | show False | refine NeedI.mk ?_ ?_); conv => whnf)
    · rename_i h1 h2
      rw [e1_rem] at h2
      simp only [decide_eq_true_eq] at h1 h2
      have hk1 : k + 1 ≤ 8 := by omega
      refine LoopEnd.mk ?_
      refine ⟨⟨k + 1, hk1⟩, by show 8 - (k + 1) < 8 - k; omega, Le.of ⟨rfl, cI ?_, rfl, cI (by simp), trivial⟩ trivial⟩
      rw [half_u32, show (3988292384 : Int) = ((3988292384#32 : BitVec 32).toNat : Int) from rfl, xor_u32]
      show _ = ((e1 (Nat.repeat e1 k _)).toNat : Int)
      rw [e1_odd h2]
    · rename_i h1 h2
      rw [e1_rem] at h2
      simp only [decide_eq_true_eq, decide_eq_false_iff_not] at h1 h2
      have hk1 : k + 1 ≤ 8 := by omega
      refine LoopEnd.mk ?_
      refine ⟨⟨k + 1, hk1⟩, by show 8 - (k + 1) < 8 - k; omega, Le.of ⟨rfl, cI ?_, rfl, cI (by simp), trivial⟩ trivial⟩
      rw [half_u32]
      show _ = ((e1 (Nat.repeat e1 k _)).toNat : Int)
      rw [e1_even h2]
    · rename_i h1
      simp only [decide_eq_false_iff_not] at h1
      obtain rfl : k = 8 := by omega
      refine Out.mk (hQ2 _ _ ?_)
      repeat' first
        | (with_reducible first | refine NeedI.mk (fun h => h) ?_ | refine NeedI.mk (fun h => h.2) ?_ | refine NeedI.mk (fun h => h.1) ?_ | exact Done.mk | refine Both.mk (fun _ => ?_) (fun _ => ?_) | refine Both2.mk (fun _ => ?_) ?_ | refine Need.mk (by first | omega | (simp only [rng]; omega)) ?_)
        | ((with_reducible fail_if_success first | refine LoopVC.mk ?_ | refine Need.mk ?_ ?_ | refine CallVC.mk ?_ | refine LoopEnd.mk ?_ | refine Out.mk ?_ | show False | refine NeedI.mk ?_ ?_); conv => whnf)
      refine LoopEnd.mk ?_
      refine ⟨⟨i + 1, hlt⟩, by show s.length - (i + 1) < s.length - i; omega, Le.of ⟨rfl, cI ?_, cI (by simp), trivial⟩ trivial⟩
      rw [refS_snoc s i hlt]
      rfl
  · rename_i h
    simp only [decide_eq_false_iff_not] at h
    obtain rfl : i = s.length := by omega
    refine Out.mk (hQ _ _ ?_)
    repeat' first
      | (with_reducible first | refine NeedI.mk (fun h => h) ?_ | refine NeedI.mk (fun h => h.2) ?_ | refine NeedI.mk (fun h => h.1) ?_ | exact Done.mk | refine Both.mk (fun _ => ?_) (fun _ => ?_) | refine Both2.mk (fun _ => ?_) ?_ | refine Need.mk (by first | with_reducible exact rng_com _ ) ?_)
      | ((with_reducible fail_if_success first | refine LoopVC.mk ?_ | refine Need.mk ?_ ?_ | refine CallVC.mk ?_ | refine LoopEnd.mk ?_ | refine Out.mk ?_ | show False | refine NeedI.mk ?_ ?_); conv => whnf)
    refine Need.mk (eI ?_) ?_
    · rw [com_u32, List.take_length]
    · repeat' first
        | (with_reducible first | refine NeedI.mk (fun h => h) ?_ | refine NeedI.mk (fun h => h.2) ?_ | refine NeedI.mk (fun h => h.1) ?_ | exact Done.mk | refine Both.mk (fun _ => ?_) (fun _ => ?_) | refine Both2.mk (fun _ => ?_) ?_ | refine Need.mk (by with_reducible exact CEq.refl _) ?_)
        | ((with_reducible fail_if_success first | refine LoopVC.mk ?_ | refine Need.mk ?_ ?_ | refine CallVC.mk ?_ | refine LoopEnd.mk ?_ | refine Out.mk ?_ | show False | refine NeedI.mk ?_ ?_); conv => whnf)
end Lk.S01
namespace Lk.S01
open Go Lk Lk.C
theorem e1_xor (x y : BitVec 32) : e1 (x ^^^ y) = e1 x ^^^ e1 y := by
  have hb : ∀ z : BitVec 32, (z &&& 1#32 = 1#32) ↔ z.getLsbD 0 = true := fun z => by
    constructor
    · intro h
      have : (z &&& 1#32).getLsbD 0 = (1#32).getLsbD 0 := by rw [h]
      simpa using this
    · intro h
      apply BitVec.eq_of_toNat_eq
      have h1 : z.toNat % 2 = 1 := by
        rw [BitVec.getLsbD, Nat.testBit_zero] at h
        simpa using h
      simp [BitVec.toNat_and, Nat.and_one_is_mod, h1]
  have hx : ∀ z : BitVec 32, e1 z = (z >>> 1) ^^^ (if z.getLsbD 0 = true then 3988292384#32 else 0#32) := fun z => by
    by_cases h : z.getLsbD 0 = true
    · rw [e1_odd ((hb z).2 h), if_pos h]
    · rw [e1_even (fun hh => h ((hb z).1 hh)), if_neg h]; simp
  rw [hx, hx, hx, BitVec.ushiftRight_xor_distrib, BitVec.getLsbD_xor]
  cases x.getLsbD 0 <;> cases y.getLsbD 0 <;> simp [BitVec.xor_assoc]
  all_goals (try (rw [BitVec.xor_comm (y >>> 1), ← BitVec.xor_assoc]))
  all_goals (try exact BitVec.xor_comm _ _)
  all_goals (try simp [← BitVec.xor_assoc])
theorem rep_xor (k : Nat) (x y : BitVec 32) : Nat.repeat e1 k (x ^^^ y) = Nat.repeat e1 k x ^^^ Nat.repeat e1 k y := by
  induction k with
  | zero => rfl
  | succ k ih => show e1 _ = e1 _ ^^^ e1 _; rw [ih, e1_xor]
theorem rep_shift (z : BitVec 32) : ∀ k, k ≤ 8 → Nat.repeat e1 k ((z >>> 8) <<< 8) = ((z >>> 8) <<< 8) >>> k
  | 0, _ => by simp [Nat.repeat]
  | k + 1, h => by
    show e1 (Nat.repeat e1 k _) = _
    rw [rep_shift z k (by omega), e1_even, BitVec.shiftRight_add]
    intro hc
    have : (((z >>> 8) <<< 8) >>> k &&& 1#32).getLsbD 0 = (1#32).getLsbD 0 := by rw [hc]
    simp at this
    omega
theorem stp_ref (x : BitVec 32) (b : UInt8) : stp tabT x b = refStp x b := by
  have split : x ^^^ b.toBitVec.setWidth 32 = ((x.setWidth 8 ^^^ b.toBitVec).setWidth 32) ^^^ ((x >>> 8) <<< 8) := by
    apply BitVec.eq_of_getLsbD_eq
    intro i hi
    simp only [BitVec.getLsbD_xor, BitVec.getLsbD_setWidth, BitVec.getLsbD_shiftLeft, BitVec.getLsbD_ushiftRight]
    by_cases h8 : i < 8
    · simp [h8, hi]
    · have : b.toBitVec.getLsbD i = false := BitVec.getLsbD_of_ge _ _ (by omega)
      simp [h8, hi, this, show 8 + (i - 8) = i by omega]
  unfold stp refStp
  rw [split, rep_xor, rep_shift x 8 (by omega)]
  congr 1
  · unfold tabT ent
    rw [BitVec.ofInt_natCast, BitVec.ofNat_toNat, BitVec.setWidth_eq, BitVec.ofNat_toNat]
  · apply BitVec.eq_of_getLsbD_eq
    intro i hi
    simp only [BitVec.getLsbD_ushiftRight, BitVec.getLsbD_shiftLeft]
    by_cases h : 8 + i < 32
    · simp [h, show ¬ 8 + i < 8 by omega, show 8 + i - 8 = i by omega]
    · rw [BitVec.getLsbD_of_ge x (8 + i) (by omega)]
      simp [h]
theorem sum_ref (s : List UInt8) : sumS tabT s = refS s := by
  unfold sumS refS
  congr 1
  funext x b
  exact stp_ref x b
end Lk.S01
