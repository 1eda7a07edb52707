/-
  Chapter 3: disk's functions.
-/
import Derived.Test.YtihjalnebgjmgaaC03
import Derived.Test.YtihjalnebgjmgaaW03a
namespace Lk.S03
open Go Lk Lk.C

theorem ceq_nil {a b : Nat} {f g : Nat → Nat → Cell} : CEq (.sl a 0 f) (.sl b 0 g) := ⟨_, _, rfl, fun h => absurd h (Nat.lt_irrefl 0)⟩

section
variable {P : Program} {F : Nat → Nat}

set_option maxHeartbeats 8000000 in
set_option maxRecDepth 100000 in
theorem sl_Clone_api_Write_ok {P : Program} {F : Nat → Nat} (hm : P.follows .mixedOrders = true) (hk : sl_Clone_api_Write_k P F) (n : Nat) (f : Nat → Nat → Cell) (hn : n ≤ 1000000) : FnOk P (F 52) [.one (.sl 2 n f)] [.one (.ow 2 n f)] := by
  refine fnOk hm hk ?_
  repeat' first
    | with_reducible refine NeedI.mk (fun h => h) ?_
    | with_reducible refine NeedI.mk (fun h => h.2) ?_
    | with_reducible refine NeedI.mk (fun h => h.1) ?_
    | with_reducible exact Done.mk
    | with_reducible refine Both.mk (fun _ => ?_) (fun _ => ?_)
    | with_reducible refine Both2.mk (fun _ => ?_) ?_
    | with_reducible refine Need.mk (by first | assumption | omega | with_reducible exact CEq.refl _ | exact ⟨rfl, rfl⟩ | exact Nat.zero_add _ | exact (Nat.zero_add _).symm | exact ⟨rfl, rfl, (Nat.zero_add _).symm⟩ | exact appC_zero) ?_
    | (fail_if_success with_reducible refine LoopVC.mk ?_
       fail_if_success with_reducible refine Need.mk ?_ ?_
       fail_if_success with_reducible refine CallVC.mk ?_
       fail_if_success with_reducible refine LoopEnd.mk ?_
       fail_if_success with_reducible refine Out.mk ?_
       fail_if_success with_reducible show False
       fail_if_success with_reducible refine NeedI.mk ?_ ?_
       conv => whnf)
set_option maxHeartbeats 8000000 in
set_option maxRecDepth 100000 in
theorem sl_Clone_string_ok {P : Program} {F : Nat → Nat} (hm : P.follows .mixedOrders = true) (hk : sl_Clone_string_k P F) (n : Nat) (f : Nat → Nat → Cell) (hn : n ≤ 1000000) : FnOk P (F 55) [.one (.sl 1 n f)] [.one (.ow 1 n f)] := by
  refine fnOk hm hk ?_
  repeat' first
    | with_reducible refine NeedI.mk (fun h => h) ?_
    | with_reducible refine NeedI.mk (fun h => h.2) ?_
    | with_reducible refine NeedI.mk (fun h => h.1) ?_
    | with_reducible exact Done.mk
    | with_reducible refine Both.mk (fun _ => ?_) (fun _ => ?_)
    | with_reducible refine Both2.mk (fun _ => ?_) ?_
    | with_reducible refine Need.mk (by first | assumption | omega | with_reducible exact CEq.refl _ | exact ⟨rfl, rfl⟩ | exact Nat.zero_add _ | exact (Nat.zero_add _).symm | exact ⟨rfl, rfl, (Nat.zero_add _).symm⟩ | exact appC_zero) ?_
    | (fail_if_success with_reducible refine LoopVC.mk ?_
       fail_if_success with_reducible refine Need.mk ?_ ?_
       fail_if_success with_reducible refine CallVC.mk ?_
       fail_if_success with_reducible refine LoopEnd.mk ?_
       fail_if_success with_reducible refine Out.mk ?_
       fail_if_success with_reducible show False
       fail_if_success with_reducible refine NeedI.mk ?_ ?_
       conv => whnf)

set_option maxHeartbeats 8000000 in
set_option maxRecDepth 100000 in
theorem fits_ok (hm : P.follows .mixedOrders = true) (hk : disk_fits_k P F) (d : Dsk) (w : Wr) (hl : d.secs.length ≤ 1000000000) (hw : w.data.length ≤ 1000000000) :
    FnOk P (F 51) [.many 2 (dskE d), .many 2 (wrE w)] [.one (.im (.bool (decide (fits d w))))] := by
  refine fnOk hm hk ?_
  repeat' first
    | with_reducible refine NeedI.mk (fun h => h) ?_
    | with_reducible refine NeedI.mk (fun h => h.2) ?_
    | with_reducible refine NeedI.mk (fun h => h.1) ?_
    | with_reducible exact Done.mk
    | with_reducible refine Both.mk (fun _ => ?_) (fun _ => ?_)
    | with_reducible refine Both2.mk (fun _ => ?_) ?_
    | with_reducible refine Need.mk (by first | omega | with_reducible exact CEq.refl _) ?_
    | (fail_if_success with_reducible refine LoopVC.mk ?_
       fail_if_success with_reducible refine Need.mk ?_ ?_
       fail_if_success with_reducible refine CallVC.mk ?_
       fail_if_success with_reducible refine LoopEnd.mk ?_
       fail_if_success with_reducible refine Out.mk ?_
       fail_if_success with_reducible show False
       fail_if_success with_reducible refine NeedI.mk ?_ ?_
       conv => whnf)
  refine Need.mk (eB ?_) ?_
  · rw [Bool.eq_iff_iff]
    simp only [Bool.and_eq_true, decide_eq_true_eq]
    constructor
    · rintro ⟨⟨a, b⟩, c⟩; exact ⟨a, b, by omega⟩
    · rintro ⟨a, b, c⟩; exact ⟨⟨a, b⟩, by omega⟩
  · repeat' first
      | with_reducible refine NeedI.mk (fun h => h) ?_
      | with_reducible refine NeedI.mk (fun h => h.2) ?_
      | with_reducible refine NeedI.mk (fun h => h.1) ?_
      | with_reducible exact Done.mk
      | with_reducible refine Both.mk (fun _ => ?_) (fun _ => ?_)
      | with_reducible refine Both2.mk (fun _ => ?_) ?_
      | with_reducible refine Need.mk (by with_reducible exact Nat.le_of_eq (Nat.zero_add _)) ?_
      | (fail_if_success with_reducible refine LoopVC.mk ?_
         fail_if_success with_reducible refine Need.mk ?_ ?_
         fail_if_success with_reducible refine CallVC.mk ?_
         fail_if_success with_reducible refine LoopEnd.mk ?_
         fail_if_success with_reducible refine Out.mk ?_
         fail_if_success with_reducible show False
         fail_if_success with_reducible refine NeedI.mk ?_ ?_
         conv => whnf)

def newD (n : Int) : Dsk := if 1 ≤ n ∧ n ≤ 64 then ⟨List.replicate n.toNat (List.replicate 16 0), []⟩ else ⟨[], []⟩
def newE (n : Int) : Int := if 1 ≤ n ∧ n ≤ 64 then 0 else 1

set_option maxHeartbeats 8000000 in
set_option maxRecDepth 100000 in
theorem new_ok (hm : P.follows .mixedOrders = true) (hk : disk_New_k P F) (n : Int) (hrep : FnOk P (F 49) [.one (.str [0]), .one (.int .i64 16)] [.one (.im (.str (List.replicate 16 0)))]) :
    FnOk P (F 28) [.one (.int .i64 n)] [.many 2 (fun j => .im (dskE (newD n) j)), .one (.im (.int .i64 (newE n)))] := by
  refine fnOk hm hk ?_
  repeat' first
    | with_reducible refine NeedI.mk (fun h => h) ?_
    | with_reducible refine NeedI.mk (fun h => h.2) ?_
    | with_reducible refine NeedI.mk (fun h => h.1) ?_
    | with_reducible exact Done.mk
    | with_reducible refine Both.mk (fun _ => ?_) (fun _ => ?_)
    | with_reducible refine Both2.mk (fun _ => ?_) ?_
    | with_reducible refine Need.mk (by first | omega | with_reducible exact CEq.refl _) ?_
    | (fail_if_success with_reducible refine LoopVC.mk ?_
       fail_if_success with_reducible refine Need.mk ?_ ?_
       fail_if_success with_reducible refine CallVC.mk ?_
       fail_if_success with_reducible refine LoopEnd.mk ?_
       fail_if_success with_reducible refine Out.mk ?_
       fail_if_success with_reducible show False
       fail_if_success with_reducible refine NeedI.mk ?_ ?_
       conv => whnf)
  · rename_i h
    simp only [Bool.or_eq_true, decide_eq_true_eq] at h
    have h1 : newD n = ⟨[], []⟩ := by unfold newD; rw [if_neg (by omega)]
    have h2 : newE n = 1 := by unfold newE; rw [if_neg (by omega)]
    rw [h1, h2]
    refine Need.mk ceq_nil ?_
    repeat' first
      | with_reducible refine NeedI.mk (fun h => h) ?_
      | with_reducible refine NeedI.mk (fun h => h.2) ?_
      | with_reducible refine NeedI.mk (fun h => h.1) ?_
      | with_reducible exact Done.mk
      | with_reducible refine Both.mk (fun _ => ?_) (fun _ => ?_)
      | with_reducible refine Both2.mk (fun _ => ?_) ?_
      | with_reducible refine Need.mk (by with_reducible exact Nat.le_of_eq (Nat.zero_add _)) ?_
      | (fail_if_success with_reducible refine LoopVC.mk ?_
         fail_if_success with_reducible refine Need.mk ?_ ?_
         fail_if_success with_reducible refine CallVC.mk ?_
         fail_if_success with_reducible refine LoopEnd.mk ?_
         fail_if_success with_reducible refine Out.mk ?_
         fail_if_success with_reducible show False
         fail_if_success with_reducible refine NeedI.mk ?_ ?_
         conv => whnf)
    refine Need.mk ceq_nil ?_
    repeat' first
      | with_reducible refine NeedI.mk (fun h => h) ?_
      | with_reducible refine NeedI.mk (fun h => h.2) ?_
      | with_reducible refine NeedI.mk (fun h => h.1) ?_
      | with_reducible exact Done.mk
      | with_reducible refine Both.mk (fun _ => ?_) (fun _ => ?_)
      | with_reducible refine Both2.mk (fun _ => ?_) ?_
      | with_reducible refine Need.mk (by with_reducible exact CEq.refl _) ?_
      | (fail_if_success with_reducible refine LoopVC.mk ?_
         fail_if_success with_reducible refine Need.mk ?_ ?_
         fail_if_success with_reducible refine CallVC.mk ?_
         fail_if_success with_reducible refine LoopEnd.mk ?_
         fail_if_success with_reducible refine Out.mk ?_
         fail_if_success with_reducible show False
         fail_if_success with_reducible refine NeedI.mk ?_ ?_
         conv => whnf)
  · rename_i h
    simp only [Bool.or_eq_false_iff, decide_eq_false_iff_not] at h
    have h1 : newD n = ⟨List.replicate n.toNat (List.replicate 16 0), []⟩ := by unfold newD; rw [if_pos (by omega)]
    have h2 : newE n = 0 := by unfold newE; rw [if_pos (by omega)]
    rw [h1, h2]
    obtain ⟨m, rfl⟩ : ∃ m : Nat, n = m := ⟨n.toNat, by omega⟩
    have hm1 : 1 ≤ m := by omega
    have hm2 : m ≤ 64 := by omega
    repeat' first
      | with_reducible refine NeedI.mk (fun h => h) ?_
      | with_reducible refine NeedI.mk (fun h => h.2) ?_
      | with_reducible refine NeedI.mk (fun h => h.1) ?_
      | with_reducible exact Done.mk
      | with_reducible refine Both.mk (fun _ => ?_) (fun _ => ?_)
      | with_reducible refine Both2.mk (fun _ => ?_) ?_
      | with_reducible refine Need.mk (by first | (simp only [decide_eq_true_eq, decide_eq_false_iff_not, Bool.or_eq_true, Bool.and_eq_true, Bool.or_eq_false_iff, Int.toNat_natCast, addN_eq, cond_false, cond_true, rng] at *; omega) | with_reducible exact CEq.refl _) ?_
      | (fail_if_success with_reducible refine LoopVC.mk ?_
         fail_if_success with_reducible refine Need.mk ?_ ?_
         fail_if_success with_reducible refine CallVC.mk ?_
         fail_if_success with_reducible refine LoopEnd.mk ?_
         fail_if_success with_reducible refine Out.mk ?_
         fail_if_success with_reducible show False
         fail_if_success with_reducible refine NeedI.mk ?_ ?_
         conv => whnf)
    refine LoopVC.of (X := {i : Nat // i ≤ m}) (fun i => stL [(2, .va 2 0 0), (4, .os 14 0 1 0 m), (16, .c (.int .i64 m)), (17, .c (.int .i64 i.1))]
      [(2, vE [.nil 1, .nil 2]), (14, ⟨1, m, .dat fun r _ => .str (if r < i.1 then List.replicate 16 0 else []), false, true⟩)])
      (fun i => m - i.1) ⟨0, Nat.zero_le _⟩ (Le.of ⟨⟨rfl, rfl, rfl⟩, ⟨rfl, rfl, rfl, rfl, rfl⟩, CEq.refl _, rfl, trivial⟩ ⟨⟨_, rfl, SubE.var2 trivial trivial⟩, ⟨_, rfl, SubE.dat fun i hi j hj => ?_⟩, trivial⟩) ?_
    · obtain rfl : j = 0 := by omega
      exact eS (by rw [if_neg (by show ¬ i < 0; omega)])
    rintro Q hQ ⟨i, hi⟩
    repeat' first
      | with_reducible refine NeedI.mk (fun h => h) ?_
      | with_reducible refine NeedI.mk (fun h => h.2) ?_
      | with_reducible refine NeedI.mk (fun h => h.1) ?_
      | with_reducible exact Done.mk
      | with_reducible refine Both.mk (fun _ => ?_) (fun _ => ?_)
      | with_reducible refine Both2.mk (fun _ => ?_) ?_
      | with_reducible refine Need.mk (by first | (simp only [decide_eq_true_eq, decide_eq_false_iff_not, Bool.or_eq_true, Bool.and_eq_true, Bool.or_eq_false_iff, Int.toNat_natCast, addN_eq, cond_false, cond_true, rng] at *; omega) | with_reducible exact CEq.refl _) ?_
      | (fail_if_success with_reducible refine LoopVC.mk ?_
         fail_if_success with_reducible refine Need.mk ?_ ?_
         fail_if_success with_reducible refine CallVC.mk ?_
         fail_if_success with_reducible refine LoopEnd.mk ?_
         fail_if_success with_reducible refine Out.mk ?_
         fail_if_success with_reducible show False
         fail_if_success with_reducible refine NeedI.mk ?_ ?_
         conv => whnf)
    · rename_i h3
      simp only [decide_eq_true_eq] at h3
      refine CallVC.mk' (fun _ => hrep) (fun _ => .cons (.one (CEq.refl _)) (.cons (.one (CEq.refl _)) .nil)) ?_
      repeat' first
        | with_reducible refine NeedI.mk (fun h => h) ?_
        | with_reducible refine NeedI.mk (fun h => h.2) ?_
        | with_reducible refine NeedI.mk (fun h => h.1) ?_
        | with_reducible exact Done.mk
        | with_reducible refine Both.mk (fun _ => ?_) (fun _ => ?_)
        | with_reducible refine Both2.mk (fun _ => ?_) ?_
        | with_reducible refine Need.mk (by first | (simp only [decide_eq_true_eq, decide_eq_false_iff_not, Bool.or_eq_true, Bool.and_eq_true, Bool.or_eq_false_iff, Int.toNat_natCast, addN_eq, cond_false, cond_true, rng] at *; omega) | with_reducible exact CEq.refl _) ?_
        | (fail_if_success with_reducible refine LoopVC.mk ?_
           fail_if_success with_reducible refine Need.mk ?_ ?_
           fail_if_success with_reducible refine CallVC.mk ?_
           fail_if_success with_reducible refine LoopEnd.mk ?_
           fail_if_success with_reducible refine Out.mk ?_
           fail_if_success with_reducible show False
           fail_if_success with_reducible refine NeedI.mk ?_ ?_
           conv => whnf)
      refine LoopEnd.mk ⟨⟨i + 1, by omega⟩, by show m - (i + 1) < m - i; omega, Le.of ⟨⟨rfl, rfl, rfl⟩, ⟨rfl, rfl, rfl, rfl, rfl⟩, CEq.refl _, cI (by simp), trivial⟩ ⟨⟨_, rfl, SubE.var2 trivial trivial⟩, ⟨_, rfl, SubE.dat fun k hk j hj => ?_⟩, trivial⟩⟩
      obtain rfl : j = 0 := by have hj : j < 1 := hj; omega
      rw [updC_at]
      show CEq _ (Cell.str (if k < i + 1 then List.replicate 16 0 else []))
      simp only [addN_eq, Nat.zero_add, Int.toNat_natCast]
      by_cases hki : k = i
      · rw [if_pos ⟨hki, trivial⟩, if_pos (by omega)]; exact CEq.refl _
      · rw [if_neg (fun h => hki h.1)]
        exact eS (by show (if k < i then _ else _) = _; congr 1; apply propext; omega)
    · rename_i h3
      simp only [decide_eq_false_iff_not] at h3
      obtain rfl : i = m := by omega
      refine Out.mk (hQ _ _ ?_)
      repeat' first
        | with_reducible refine NeedI.mk (fun h => h) ?_
        | with_reducible refine NeedI.mk (fun h => h.2) ?_
        | with_reducible refine NeedI.mk (fun h => h.1) ?_
        | with_reducible exact Done.mk
        | with_reducible refine Both.mk (fun _ => ?_) (fun _ => ?_)
        | with_reducible refine Both2.mk (fun _ => ?_) ?_
        | with_reducible refine Need.mk (by with_reducible exact Nat.le_of_eq (Nat.zero_add _)) ?_
        | (fail_if_success with_reducible refine LoopVC.mk ?_
           fail_if_success with_reducible refine Need.mk ?_ ?_
           fail_if_success with_reducible refine CallVC.mk ?_
           fail_if_success with_reducible refine LoopEnd.mk ?_
           fail_if_success with_reducible refine Out.mk ?_
           fail_if_success with_reducible show False
           fail_if_success with_reducible refine NeedI.mk ?_ ?_
           conv => whnf)
      refine Need.mk (CEq.list (by simp) fun k hk j hj => ?_) ?_
      · obtain rfl : j = 0 := by omega
        have hk : k < i := by simpa using hk
        rw [getD_eq (by simpa using hk)]
        exact eS (by show (if addN 0 k < i then _ else _) = _; rw [if_pos (by rw [addN_eq]; omega)]; simp)
      repeat' first
        | with_reducible refine NeedI.mk (fun h => h) ?_
        | with_reducible refine NeedI.mk (fun h => h.2) ?_
        | with_reducible refine NeedI.mk (fun h => h.1) ?_
        | with_reducible exact Done.mk
        | with_reducible refine Both.mk (fun _ => ?_) (fun _ => ?_)
        | with_reducible refine Both2.mk (fun _ => ?_) ?_
        | with_reducible refine Need.mk (by with_reducible exact Nat.le_of_eq (Nat.zero_add _)) ?_
        | (fail_if_success with_reducible refine LoopVC.mk ?_
           fail_if_success with_reducible refine Need.mk ?_ ?_
           fail_if_success with_reducible refine CallVC.mk ?_
           fail_if_success with_reducible refine LoopEnd.mk ?_
           fail_if_success with_reducible refine Out.mk ?_
           fail_if_success with_reducible show False
           fail_if_success with_reducible refine NeedI.mk ?_ ?_
           conv => whnf)
      refine Need.mk ceq_nil ?_
      repeat' first
        | with_reducible refine NeedI.mk (fun h => h) ?_
        | with_reducible refine NeedI.mk (fun h => h.2) ?_
        | with_reducible refine NeedI.mk (fun h => h.1) ?_
        | with_reducible exact Done.mk
        | with_reducible refine Both.mk (fun _ => ?_) (fun _ => ?_)
        | with_reducible refine Both2.mk (fun _ => ?_) ?_
        | with_reducible refine Need.mk (by with_reducible exact CEq.refl _) ?_
        | (fail_if_success with_reducible refine LoopVC.mk ?_
           fail_if_success with_reducible refine Need.mk ?_ ?_
           fail_if_success with_reducible refine CallVC.mk ?_
           fail_if_success with_reducible refine LoopEnd.mk ?_
           fail_if_success with_reducible refine Out.mk ?_
           fail_if_success with_reducible show False
           fail_if_success with_reducible refine NeedI.mk ?_ ?_
           conv => whnf)

set_option maxHeartbeats 8000000 in
set_option maxRecDepth 100000 in
theorem right_ok (hm : P.follows .mixedOrders = true) (hk : disk_Right_k P F) (hf : disk_fits_k P F) (d : Dsk) (hs : d.secs.length ≤ 1000000) (hc : d.cache.length ≤ 1000000)
    (hls : ∀ s ∈ d.secs, s.length ≤ 1000000) (hlc : ∀ w ∈ d.cache, w.data.length ≤ 1000000) : FnOk P (F 40) [.many 2 (dskE d)] [.one (.im (.bool (decide (right d))))] := by
  refine fnOk hm hk ?_
  repeat' first
    | with_reducible refine NeedI.mk (fun h => h) ?_
    | with_reducible refine NeedI.mk (fun h => h.2) ?_
    | with_reducible refine NeedI.mk (fun h => h.1) ?_
    | with_reducible exact Done.mk
    | with_reducible refine Both.mk (fun _ => ?_) (fun _ => ?_)
    | with_reducible refine Both2.mk (fun _ => ?_) ?_
    | with_reducible refine Need.mk (by first | omega | with_reducible exact CEq.refl _) ?_
    | (fail_if_success with_reducible refine LoopVC.mk ?_
       fail_if_success with_reducible refine Need.mk ?_ ?_
       fail_if_success with_reducible refine CallVC.mk ?_
       fail_if_success with_reducible refine LoopEnd.mk ?_
       fail_if_success with_reducible refine Out.mk ?_
       fail_if_success with_reducible show False
       fail_if_success with_reducible refine NeedI.mk ?_ ?_
       conv => whnf)
  · rename_i h
    simp only [Bool.or_eq_true, decide_eq_true_eq] at h
    refine Need.mk (eB ?_) ?_
    · symm; rw [decide_eq_false_iff_not]; unfold right; omega
    · repeat' first
        | with_reducible refine NeedI.mk (fun h => h) ?_
        | with_reducible refine NeedI.mk (fun h => h.2) ?_
        | with_reducible refine NeedI.mk (fun h => h.1) ?_
        | with_reducible exact Done.mk
        | with_reducible refine Both.mk (fun _ => ?_) (fun _ => ?_)
        | with_reducible refine Both2.mk (fun _ => ?_) ?_
        | with_reducible refine Need.mk (by with_reducible exact CEq.refl _) ?_
        | (fail_if_success with_reducible refine LoopVC.mk ?_
           fail_if_success with_reducible refine Need.mk ?_ ?_
           fail_if_success with_reducible refine CallVC.mk ?_
           fail_if_success with_reducible refine LoopEnd.mk ?_
           fail_if_success with_reducible refine Out.mk ?_
           fail_if_success with_reducible show False
           fail_if_success with_reducible refine NeedI.mk ?_ ?_
           conv => whnf)
  · rename_i h1
    simp only [Bool.or_eq_false_iff, decide_eq_false_iff_not] at h1
    refine LoopVC.of (X := {i : Nat // i ≤ d.secs.length ∧ ∀ k, k < i → (d.secs.getD k default).length = 16}) (fun i => stL [(1, .va 1 0 0), (24, .c (slL 1 strE d.secs)), (25, .c (.int .i64 d.secs.length)), (26, .c (.int .i64 i.1))] [(1, vE [.c (slL 1 strE d.secs), .c (slL 2 wrE d.cache)])])
      (fun i => d.secs.length - i.1) ⟨0, Nat.zero_le _, fun k hk => by omega⟩ (Le.of ⟨⟨rfl, rfl, rfl⟩, CEq.refl _, rfl, rfl, trivial⟩ ⟨⟨_, rfl, SubE.var2 (CEq.refl _) (CEq.refl _)⟩, trivial⟩) ?_
    rintro Q hQ ⟨i, hi, hi2⟩
    have hle : (d.secs.getD i default).length ≤ 1000000 ∨ ¬ i < d.secs.length := by
      by_cases h : i < d.secs.length
      · exact .inl (hls _ (getD_mem h))
      · exact .inr h
    repeat' first
      | with_reducible refine NeedI.mk (fun h => h) ?_
      | with_reducible refine NeedI.mk (fun h => h.2) ?_
      | with_reducible refine NeedI.mk (fun h => h.1) ?_
      | with_reducible exact Done.mk
      | with_reducible refine Both.mk (fun _ => ?_) (fun _ => ?_)
      | with_reducible refine Both2.mk (fun _ => ?_) ?_
      | with_reducible refine Need.mk (by first | with_reducible exact CEq.refl _ | (simp only [decide_eq_true_eq, decide_eq_false_iff_not, Bool.or_eq_true, Bool.and_eq_true, Bool.or_eq_false_iff, Int.toNat_natCast, addN_eq, cond_false, cond_true, rng] at *; omega)) ?_
      | (fail_if_success with_reducible refine LoopVC.mk ?_
         fail_if_success with_reducible refine Need.mk ?_ ?_
         fail_if_success with_reducible refine CallVC.mk ?_
         fail_if_success with_reducible refine LoopEnd.mk ?_
         fail_if_success with_reducible refine Out.mk ?_
         fail_if_success with_reducible show False
         fail_if_success with_reducible refine NeedI.mk ?_ ?_
         conv => whnf)
    · rename_i h3 h4
      simp only [decide_eq_true_eq, Bool.not_eq_true', decide_eq_false_iff_not, Int.toNat_natCast, addN_eq, Nat.zero_add] at h3 h4
      refine Out.mk (hQ _ _ ?_)
      repeat' first
        | with_reducible refine NeedI.mk (fun h => h) ?_
        | with_reducible refine NeedI.mk (fun h => h.2) ?_
        | with_reducible refine NeedI.mk (fun h => h.1) ?_
        | with_reducible exact Done.mk
        | with_reducible refine Both.mk (fun _ => ?_) (fun _ => ?_)
        | with_reducible refine Both2.mk (fun _ => ?_) ?_
        | with_reducible refine Need.mk (by with_reducible exact Nat.le_of_eq (Nat.zero_add _)) ?_
        | (fail_if_success with_reducible refine LoopVC.mk ?_
           fail_if_success with_reducible refine Need.mk ?_ ?_
           fail_if_success with_reducible refine CallVC.mk ?_
           fail_if_success with_reducible refine LoopEnd.mk ?_
           fail_if_success with_reducible refine Out.mk ?_
           fail_if_success with_reducible show False
           fail_if_success with_reducible refine NeedI.mk ?_ ?_
           conv => whnf)
      refine Need.mk (eB ?_) ?_
      · symm; rw [decide_eq_false_iff_not]
        intro hr
        have h5 := hr.2.2.2.1 _ (getD_mem (show i < d.secs.length by omega))
        omega
      · repeat' first
          | with_reducible refine NeedI.mk (fun h => h) ?_
          | with_reducible refine NeedI.mk (fun h => h.2) ?_
          | with_reducible refine NeedI.mk (fun h => h.1) ?_
          | with_reducible exact Done.mk
          | with_reducible refine Both.mk (fun _ => ?_) (fun _ => ?_)
          | with_reducible refine Both2.mk (fun _ => ?_) ?_
          | with_reducible refine Need.mk (by with_reducible exact CEq.refl _) ?_
          | (fail_if_success with_reducible refine LoopVC.mk ?_
             fail_if_success with_reducible refine Need.mk ?_ ?_
             fail_if_success with_reducible refine CallVC.mk ?_
             fail_if_success with_reducible refine LoopEnd.mk ?_
             fail_if_success with_reducible refine Out.mk ?_
             fail_if_success with_reducible show False
             fail_if_success with_reducible refine NeedI.mk ?_ ?_
             conv => whnf)
    · rename_i h3 h4
      simp only [decide_eq_true_eq, Bool.not_eq_false', decide_eq_false_iff_not, Int.toNat_natCast, addN_eq, Nat.zero_add] at h3 h4
      refine LoopEnd.mk ⟨⟨i + 1, by omega, fun k hk => ?_⟩, by show d.secs.length - (i + 1) < d.secs.length - i; omega, Le.of ⟨⟨rfl, rfl, rfl⟩, CEq.refl _, rfl, cI (by simp), trivial⟩ ⟨⟨_, rfl, SubE.var2 (CEq.refl _) (CEq.refl _)⟩, trivial⟩⟩
      rcases Nat.lt_or_ge k i with h | h
      · exact hi2 k h
      · obtain rfl : k = i := by omega
        omega
    · rename_i h3
      simp only [decide_eq_false_iff_not] at h3
      refine Out.mk (hQ _ _ ?_)
      have hsec : ∀ s ∈ d.secs, s.length = 16 := by
        obtain rfl : i = d.secs.length := by omega
        exact all_of_getD hi2
      repeat' first
        | with_reducible refine NeedI.mk (fun h => h) ?_
        | with_reducible refine NeedI.mk (fun h => h.2) ?_
        | with_reducible refine NeedI.mk (fun h => h.1) ?_
        | with_reducible exact Done.mk
        | with_reducible refine Both.mk (fun _ => ?_) (fun _ => ?_)
        | with_reducible refine Both2.mk (fun _ => ?_) ?_
        | with_reducible refine Need.mk (by first | with_reducible exact CEq.refl _ | (simp only [decide_eq_true_eq, decide_eq_false_iff_not, Bool.or_eq_true, Bool.and_eq_true, Bool.or_eq_false_iff, Int.toNat_natCast, addN_eq, cond_false, cond_true, rng] at *; omega)) ?_
        | (fail_if_success with_reducible refine LoopVC.mk ?_
           fail_if_success with_reducible refine Need.mk ?_ ?_
           fail_if_success with_reducible refine CallVC.mk ?_
           fail_if_success with_reducible refine LoopEnd.mk ?_
           fail_if_success with_reducible refine Out.mk ?_
           fail_if_success with_reducible show False
           fail_if_success with_reducible refine NeedI.mk ?_ ?_
           conv => whnf)
      refine LoopVC.of (X := {i : Nat // i ≤ d.cache.length ∧ ∀ k, k < i → fits d (d.cache.getD k default)}) (fun i => stL [(1, .va 1 0 0), (35, .c (slL 2 wrE d.cache)), (36, .c (.int .i64 d.cache.length)), (37, .c (.int .i64 i.1))] [(1, vE [.c (slL 1 strE d.secs), .c (slL 2 wrE d.cache)])])
        (fun i => d.cache.length - i.1) ⟨0, Nat.zero_le _, fun k hk => by omega⟩ (Le.of ⟨⟨rfl, rfl, rfl⟩, CEq.refl _, rfl, rfl, trivial⟩ ⟨⟨_, rfl, SubE.var2 (CEq.refl _) (CEq.refl _)⟩, trivial⟩) ?_
      rintro Q2 hQ2 ⟨k, hk, hk2⟩
      repeat' first
        | with_reducible refine NeedI.mk (fun h => h) ?_
        | with_reducible refine NeedI.mk (fun h => h.2) ?_
        | with_reducible refine NeedI.mk (fun h => h.1) ?_
        | with_reducible exact Done.mk
        | with_reducible refine Both.mk (fun _ => ?_) (fun _ => ?_)
        | with_reducible refine Both2.mk (fun _ => ?_) ?_
        | with_reducible refine Need.mk (by first | with_reducible exact CEq.refl _ | (simp only [decide_eq_true_eq, decide_eq_false_iff_not, Bool.or_eq_true, Bool.and_eq_true, Bool.or_eq_false_iff, Int.toNat_natCast, addN_eq, cond_false, cond_true, rng] at *; omega)) ?_
        | (fail_if_success with_reducible refine LoopVC.mk ?_
           fail_if_success with_reducible refine Need.mk ?_ ?_
           fail_if_success with_reducible refine CallVC.mk ?_
           fail_if_success with_reducible refine LoopEnd.mk ?_
           fail_if_success with_reducible refine Out.mk ?_
           fail_if_success with_reducible show False
           fail_if_success with_reducible refine NeedI.mk ?_ ?_
           conv => whnf)
      · rename_i h4
        simp only [decide_eq_true_eq] at h4
        have hkl : k < d.cache.length := by omega
        refine CallVC.mk' (fun _ => fits_ok hm hf d (d.cache.getD k default) (by omega) (by have := hlc _ (getD_mem hkl); omega)) (fun _ => .cons ((.many fun j hj => by (rcases (show j = 0 ∨ j = 1 by omega) with rfl | rfl <;> exact CEq.refl _))) (.cons ((.many fun j hj => by (rcases (show j = 0 ∨ j = 1 by omega) with rfl | rfl <;> exact CEq.refl _))) .nil)) ?_
        repeat' first
          | with_reducible refine NeedI.mk (fun h => h) ?_
          | with_reducible refine NeedI.mk (fun h => h.2) ?_
          | with_reducible refine NeedI.mk (fun h => h.1) ?_
          | with_reducible exact Done.mk
          | with_reducible refine Both.mk (fun _ => ?_) (fun _ => ?_)
          | with_reducible refine Both2.mk (fun _ => ?_) ?_
          | with_reducible refine Need.mk (by first | with_reducible exact CEq.refl _ | (simp only [decide_eq_true_eq, decide_eq_false_iff_not, Bool.or_eq_true, Bool.and_eq_true, Bool.or_eq_false_iff, Int.toNat_natCast, addN_eq, cond_false, cond_true, rng] at *; omega)) ?_
          | (fail_if_success with_reducible refine LoopVC.mk ?_
             fail_if_success with_reducible refine Need.mk ?_ ?_
             fail_if_success with_reducible refine CallVC.mk ?_
             fail_if_success with_reducible refine LoopEnd.mk ?_
             fail_if_success with_reducible refine Out.mk ?_
             fail_if_success with_reducible show False
             fail_if_success with_reducible refine NeedI.mk ?_ ?_
             conv => whnf)
        · rename_i h5
          simp only [Bool.not_eq_true', decide_eq_false_iff_not] at h5
          refine Out.mk (hQ2 _ _ ?_)
          repeat' first
            | with_reducible refine NeedI.mk (fun h => h) ?_
            | with_reducible refine NeedI.mk (fun h => h.2) ?_
            | with_reducible refine NeedI.mk (fun h => h.1) ?_
            | with_reducible exact Done.mk
            | with_reducible refine Both.mk (fun _ => ?_) (fun _ => ?_)
            | with_reducible refine Both2.mk (fun _ => ?_) ?_
            | with_reducible refine Need.mk (by with_reducible exact Nat.le_of_eq (Nat.zero_add _)) ?_
            | (fail_if_success with_reducible refine LoopVC.mk ?_
               fail_if_success with_reducible refine Need.mk ?_ ?_
               fail_if_success with_reducible refine CallVC.mk ?_
               fail_if_success with_reducible refine LoopEnd.mk ?_
               fail_if_success with_reducible refine Out.mk ?_
               fail_if_success with_reducible show False
               fail_if_success with_reducible refine NeedI.mk ?_ ?_
               conv => whnf)
          refine Need.mk (eB ?_) ?_
          · symm; rw [decide_eq_false_iff_not]
            exact fun hr => h5 (hr.2.2.2.2 _ (getD_mem hkl))
          · repeat' first
              | with_reducible refine NeedI.mk (fun h => h) ?_
              | with_reducible refine NeedI.mk (fun h => h.2) ?_
              | with_reducible refine NeedI.mk (fun h => h.1) ?_
              | with_reducible exact Done.mk
              | with_reducible refine Both.mk (fun _ => ?_) (fun _ => ?_)
              | with_reducible refine Both2.mk (fun _ => ?_) ?_
              | with_reducible refine Need.mk (by with_reducible exact CEq.refl _) ?_
              | (fail_if_success with_reducible refine LoopVC.mk ?_
                 fail_if_success with_reducible refine Need.mk ?_ ?_
                 fail_if_success with_reducible refine CallVC.mk ?_
                 fail_if_success with_reducible refine LoopEnd.mk ?_
                 fail_if_success with_reducible refine Out.mk ?_
                 fail_if_success with_reducible show False
                 fail_if_success with_reducible refine NeedI.mk ?_ ?_
                 conv => whnf)
        · rename_i h5
          simp only [Bool.not_eq_false', decide_eq_true_eq] at h5
          refine LoopEnd.mk ⟨⟨k + 1, by omega, fun m hm => ?_⟩, by show d.cache.length - (k + 1) < d.cache.length - k; omega, Le.of ⟨⟨rfl, rfl, rfl⟩, CEq.refl _, rfl, cI (by simp), trivial⟩ ⟨⟨_, rfl, SubE.var2 (CEq.refl _) (CEq.refl _)⟩, trivial⟩⟩
          rcases Nat.lt_or_ge m k with h | h
          · exact hk2 m h
          · obtain rfl : m = k := by omega
            exact h5
      · rename_i h4
        simp only [decide_eq_false_iff_not] at h4
        refine Out.mk (hQ2 _ _ ?_)
        repeat' first
          | with_reducible refine NeedI.mk (fun h => h) ?_
          | with_reducible refine NeedI.mk (fun h => h.2) ?_
          | with_reducible refine NeedI.mk (fun h => h.1) ?_
          | with_reducible exact Done.mk
          | with_reducible refine Both.mk (fun _ => ?_) (fun _ => ?_)
          | with_reducible refine Both2.mk (fun _ => ?_) ?_
          | with_reducible refine Need.mk (by with_reducible exact Nat.le_of_eq (Nat.zero_add _)) ?_
          | (fail_if_success with_reducible refine LoopVC.mk ?_
             fail_if_success with_reducible refine Need.mk ?_ ?_
             fail_if_success with_reducible refine CallVC.mk ?_
             fail_if_success with_reducible refine LoopEnd.mk ?_
             fail_if_success with_reducible refine Out.mk ?_
             fail_if_success with_reducible show False
             fail_if_success with_reducible refine NeedI.mk ?_ ?_
             conv => whnf)
        refine Need.mk (eB ?_) ?_
        · symm; rw [decide_eq_true_eq]
          obtain rfl : k = d.cache.length := by omega
          exact ⟨by omega, by omega, by omega, hsec, all_of_getD hk2⟩
        · repeat' first
            | with_reducible refine NeedI.mk (fun h => h) ?_
            | with_reducible refine NeedI.mk (fun h => h.2) ?_
            | with_reducible refine NeedI.mk (fun h => h.1) ?_
            | with_reducible exact Done.mk
            | with_reducible refine Both.mk (fun _ => ?_) (fun _ => ?_)
            | with_reducible refine Both2.mk (fun _ => ?_) ?_
            | with_reducible refine Need.mk (by with_reducible exact CEq.refl _) ?_
            | (fail_if_success with_reducible refine LoopVC.mk ?_
               fail_if_success with_reducible refine Need.mk ?_ ?_
               fail_if_success with_reducible refine CallVC.mk ?_
               fail_if_success with_reducible refine LoopEnd.mk ?_
               fail_if_success with_reducible refine Out.mk ?_
               fail_if_success with_reducible show False
               fail_if_success with_reducible refine NeedI.mk ?_ ?_
               conv => whnf)


theorem set_getD {α : Type} [Inhabited α] {l : List α} {r i : Nat} {x : α} (hr : r < l.length) : (l.set r x).getD i default = if r = i then x else l.getD i default := by
  rw [List.getD_eq_getElem?_getD, List.getD_eq_getElem?_getD, List.getElem?_set]
  split
  · next h => subst h; simp [hr]
  · rfl

/-- Sectors after writes. -/
def wrS (secs : List (List UInt8)) (l : List Wr) : List (List UInt8) := l.foldl (fun s w => s.set w.at_.toNat w.data) secs
theorem wrS_len {secs : List (List UInt8)} {l : List Wr} : (wrS secs l).length = secs.length := by
  induction l generalizing secs with
  | nil => rfl
  | cons w l ih => show (wrS (secs.set _ _) l).length = _; rw [ih, List.length_set]
theorem wrS_snoc {secs : List (List UInt8)} {l : List Wr} {w : Wr} : wrS secs (l ++ [w]) = (wrS secs l).set w.at_.toNat w.data := by
  unfold wrS; rw [List.foldl_append]; rfl

set_option maxHeartbeats 8000000 in
set_option maxRecDepth 100000 in
theorem written_ok (hm : P.follows .mixedOrders = true) (hk : disk_written_k P F) (hc : sl_Clone_string_k P F) (d : Dsk) (l : List Wr) (hs : d.secs.length ≤ 1000000) (hl : l.length ≤ 1000000)
    (hw : ∀ w ∈ l, 0 ≤ w.at_ ∧ w.at_ < d.secs.length) : FnOk P (F 50) [.many 2 (dskE d), .one (slL 2 wrE l)] [.many 2 (fun j => .im (dskE ⟨wrS d.secs l, []⟩ j))] := by
  refine fnOk hm hk ?_
  repeat' first
    | with_reducible refine NeedI.mk (fun h => h) ?_
    | with_reducible refine NeedI.mk (fun h => h.2) ?_
    | with_reducible refine NeedI.mk (fun h => h.1) ?_
    | with_reducible exact Done.mk
    | with_reducible refine Both.mk (fun _ => ?_) (fun _ => ?_)
    | with_reducible refine Both2.mk (fun _ => ?_) ?_
    | with_reducible refine Need.mk (by first | with_reducible exact CEq.refl _ | (simp only [decide_eq_true_eq, decide_eq_false_iff_not, Bool.or_eq_true, Bool.and_eq_true, Bool.or_eq_false_iff, Int.toNat_natCast, addN_eq, cond_false, cond_true, rng] at *; omega)) ?_
    | (fail_if_success with_reducible refine LoopVC.mk ?_
       fail_if_success with_reducible refine Need.mk ?_ ?_
       fail_if_success with_reducible refine CallVC.mk ?_
       fail_if_success with_reducible refine LoopEnd.mk ?_
       fail_if_success with_reducible refine Out.mk ?_
       fail_if_success with_reducible show False
       fail_if_success with_reducible refine NeedI.mk ?_ ?_
       conv => whnf)
  refine CallVC.mk' (fun _ => sl_Clone_string_ok hm hc d.secs.length (fun i j => strE (d.secs.getD i default) j) (by omega)) (fun _ => .cons (.one (CEq.refl _)) .nil) ?_
  repeat' first
    | with_reducible refine NeedI.mk (fun h => h) ?_
    | with_reducible refine NeedI.mk (fun h => h.2) ?_
    | with_reducible refine NeedI.mk (fun h => h.1) ?_
    | with_reducible exact Done.mk
    | with_reducible refine Both.mk (fun _ => ?_) (fun _ => ?_)
    | with_reducible refine Both2.mk (fun _ => ?_) ?_
    | with_reducible refine Need.mk (by first | with_reducible exact CEq.refl _ | (simp only [decide_eq_true_eq, decide_eq_false_iff_not, Bool.or_eq_true, Bool.and_eq_true, Bool.or_eq_false_iff, Int.toNat_natCast, addN_eq, cond_false, cond_true, rng] at *; omega)) ?_
    | (fail_if_success with_reducible refine LoopVC.mk ?_
       fail_if_success with_reducible refine Need.mk ?_ ?_
       fail_if_success with_reducible refine CallVC.mk ?_
       fail_if_success with_reducible refine LoopEnd.mk ?_
       fail_if_success with_reducible refine Out.mk ?_
       fail_if_success with_reducible show False
       fail_if_success with_reducible refine NeedI.mk ?_ ?_
       conv => whnf)
  refine LoopVC.of (X := {i : Nat // i ≤ l.length}) (fun i => stL [(4, .va 4 0 0), (5, .os 1010 0 1 0 d.secs.length), (11, .c (slL 2 wrE l)), (12, .c (.int .i64 l.length)), (13, .c (.int .i64 i.1))]
      [(4, vE [.nil 1, .nil 2]), (1010, ⟨1, d.secs.length, .dat fun r j => strE ((wrS d.secs (l.take i.1)).getD r default) j, false, true⟩)])
    (fun i => l.length - i.1) ⟨0, Nat.zero_le _⟩ (Le.of ⟨⟨rfl, rfl, rfl⟩, ⟨rfl, rfl, rfl, rfl, rfl⟩, CEq.refl _, rfl, rfl, trivial⟩ ⟨⟨_, rfl, SubE.var2 trivial trivial⟩, ⟨_, rfl, SubE.dat fun i hi j hj => CEq.refl _⟩, trivial⟩) ?_
  rintro Q hQ ⟨i, hi⟩
  have hwi : ¬ i < l.length ∨ (0 ≤ (l.getD i default).at_ ∧ (l.getD i default).at_ < d.secs.length) := by
    by_cases h : i < l.length
    · exact .inr (hw _ (getD_mem h))
    · exact .inl h
  repeat' first
    | with_reducible refine NeedI.mk (fun h => h) ?_
    | with_reducible refine NeedI.mk (fun h => h.2) ?_
    | with_reducible refine NeedI.mk (fun h => h.1) ?_
    | with_reducible exact Done.mk
    | with_reducible refine Both.mk (fun _ => ?_) (fun _ => ?_)
    | with_reducible refine Both2.mk (fun _ => ?_) ?_
    | with_reducible refine Need.mk (by first | with_reducible exact CEq.refl _ | (simp only [decide_eq_true_eq, decide_eq_false_iff_not, Bool.or_eq_true, Bool.and_eq_true, Bool.or_eq_false_iff, Int.toNat_natCast, addN_eq, cond_false, cond_true, rng] at *; omega)) ?_
    | (fail_if_success with_reducible refine LoopVC.mk ?_
       fail_if_success with_reducible refine Need.mk ?_ ?_
       fail_if_success with_reducible refine CallVC.mk ?_
       fail_if_success with_reducible refine LoopEnd.mk ?_
       fail_if_success with_reducible refine Out.mk ?_
       fail_if_success with_reducible show False
       fail_if_success with_reducible refine NeedI.mk ?_ ?_
       conv => whnf)
  · rename_i h3
    simp only [decide_eq_true_eq] at h3
    refine LoopEnd.mk ⟨⟨i + 1, by omega⟩, by show l.length - (i + 1) < l.length - i; omega, Le.of ⟨⟨rfl, rfl, rfl⟩, ⟨rfl, rfl, rfl, rfl, rfl⟩, CEq.refl _, rfl, cI (by simp), trivial⟩ ⟨⟨_, rfl, SubE.var2 trivial trivial⟩, ⟨_, rfl, SubE.dat fun k hk j hj => ?_⟩, trivial⟩⟩
    obtain rfl : j = 0 := by have hj : j < 1 := hj; omega
    have hk : k < d.secs.length := hk
    rw [updC_at]
    show CEq _ (Cell.str ((wrS d.secs (l.take (i + 1))).getD k default))
    rw [take_snoc (by omega), wrS_snoc, set_getD (by rw [wrS_len]; omega)]
    simp only [addN_eq, Nat.zero_add, Int.toNat_natCast]
    by_cases hki : k = (l.getD i default).at_.toNat
    · rw [if_pos ⟨hki, trivial⟩, if_pos hki.symm]; exact CEq.refl _
    · rw [if_neg (fun h => hki h.1), if_neg (fun h => hki h.symm)]; exact CEq.refl _
  · rename_i h3
    simp only [decide_eq_false_iff_not] at h3
    obtain rfl : i = l.length := by omega
    refine Out.mk (hQ _ _ ?_)
    repeat' first
      | with_reducible refine NeedI.mk (fun h => h) ?_
      | with_reducible refine NeedI.mk (fun h => h.2) ?_
      | with_reducible refine NeedI.mk (fun h => h.1) ?_
      | with_reducible exact Done.mk
      | with_reducible refine Both.mk (fun _ => ?_) (fun _ => ?_)
      | with_reducible refine Both2.mk (fun _ => ?_) ?_
      | with_reducible refine Need.mk (by with_reducible exact Nat.le_of_eq (Nat.zero_add _)) ?_
      | (fail_if_success with_reducible refine LoopVC.mk ?_
         fail_if_success with_reducible refine Need.mk ?_ ?_
         fail_if_success with_reducible refine CallVC.mk ?_
         fail_if_success with_reducible refine LoopEnd.mk ?_
         fail_if_success with_reducible refine Out.mk ?_
         fail_if_success with_reducible show False
         fail_if_success with_reducible refine NeedI.mk ?_ ?_
         conv => whnf)
    refine Need.mk (CEq.list (by show _ = (wrS d.secs l).length; rw [wrS_len]) fun k hk j hj => ?_) ?_
    · show CEq (strE ((wrS d.secs (l.take l.length)).getD (addN 0 k) default) j) _
      rw [List.take_length, addN_eq, Nat.zero_add]; exact CEq.refl _
    repeat' first
      | with_reducible refine NeedI.mk (fun h => h) ?_
      | with_reducible refine NeedI.mk (fun h => h.2) ?_
      | with_reducible refine NeedI.mk (fun h => h.1) ?_
      | with_reducible exact Done.mk
      | with_reducible refine Both.mk (fun _ => ?_) (fun _ => ?_)
      | with_reducible refine Both2.mk (fun _ => ?_) ?_
      | with_reducible refine Need.mk (by with_reducible exact Nat.le_of_eq (Nat.zero_add _)) ?_
      | (fail_if_success with_reducible refine LoopVC.mk ?_
         fail_if_success with_reducible refine Need.mk ?_ ?_
         fail_if_success with_reducible refine CallVC.mk ?_
         fail_if_success with_reducible refine LoopEnd.mk ?_
         fail_if_success with_reducible refine Out.mk ?_
         fail_if_success with_reducible show False
         fail_if_success with_reducible refine NeedI.mk ?_ ?_
         conv => whnf)
    refine Need.mk ceq_nil ?_
    repeat' first
      | with_reducible refine NeedI.mk (fun h => h) ?_
      | with_reducible refine NeedI.mk (fun h => h.2) ?_
      | with_reducible refine NeedI.mk (fun h => h.1) ?_
      | with_reducible exact Done.mk
      | with_reducible refine Both.mk (fun _ => ?_) (fun _ => ?_)
      | with_reducible refine Both2.mk (fun _ => ?_) ?_
      | with_reducible refine Need.mk (by with_reducible exact Nat.le_of_eq (Nat.zero_add _)) ?_
      | (fail_if_success with_reducible refine LoopVC.mk ?_
         fail_if_success with_reducible refine Need.mk ?_ ?_
         fail_if_success with_reducible refine CallVC.mk ?_
         fail_if_success with_reducible refine LoopEnd.mk ?_
         fail_if_success with_reducible refine Out.mk ?_
         fail_if_success with_reducible show False
         fail_if_success with_reducible refine NeedI.mk ?_ ?_
         conv => whnf)

def Dsk.put (d : Dsk) (w : Wr) : Dsk := if right d ∧ fits d w ∧ d.cache.length < 200 then ⟨d.secs, d.cache ++ [w]⟩ else d
def Dsk.putE (d : Dsk) (w : Wr) : Int := if right d ∧ fits d w then (if d.cache.length < 200 then 0 else 7) else 1

set_option maxHeartbeats 8000000 in
set_option maxRecDepth 100000 in
theorem put_ok (hm : P.follows .mixedOrders = true) (hk : disk_Put_k P F) (hr : disk_Right_k P F) (hf : disk_fits_k P F) (hcl : sl_Clone_api_Write_k P F) (d : Dsk) (w : Wr) (hs : d.secs.length ≤ 1000000) (hc : d.cache.length ≤ 1000000)
    (hls : ∀ s ∈ d.secs, s.length ≤ 1000000) (hlc : ∀ w ∈ d.cache, w.data.length ≤ 1000000) (hw : w.data.length ≤ 1000000) : FnOk P (F 36) [.many 2 (dskE d), .many 2 (wrE w)]
      [.many 2 (fun j => .im (dskE (d.put w) j)), .one (.im (.int .i64 (d.putE w)))] := by
  refine fnOk hm hk ?_
  repeat' first
    | with_reducible refine NeedI.mk (fun h => h) ?_
    | with_reducible refine NeedI.mk (fun h => h.2) ?_
    | with_reducible refine NeedI.mk (fun h => h.1) ?_
    | with_reducible exact Done.mk
    | with_reducible refine Both.mk (fun _ => ?_) (fun _ => ?_)
    | with_reducible refine Both2.mk (fun _ => ?_) ?_
    | with_reducible refine Need.mk (by first | with_reducible exact CEq.refl _ | (simp only [decide_eq_true_eq, decide_eq_false_iff_not, Bool.or_eq_true, Bool.and_eq_true, Bool.or_eq_false_iff, Int.toNat_natCast, addN_eq, cond_false, cond_true, rng] at *; omega)) ?_
    | (fail_if_success with_reducible refine LoopVC.mk ?_
       fail_if_success with_reducible refine Need.mk ?_ ?_
       fail_if_success with_reducible refine CallVC.mk ?_
       fail_if_success with_reducible refine LoopEnd.mk ?_
       fail_if_success with_reducible refine Out.mk ?_
       fail_if_success with_reducible show False
       fail_if_success with_reducible refine NeedI.mk ?_ ?_
       conv => whnf)
  refine CallVC.mk' (fun _ => right_ok hm hr hf d hs hc hls hlc) (fun _ => .cons ((.many fun j hj => by (rcases (show j = 0 ∨ j = 1 by omega) with rfl | rfl <;> exact CEq.refl _))) .nil) ?_
  repeat' first
    | with_reducible refine NeedI.mk (fun h => h) ?_
    | with_reducible refine NeedI.mk (fun h => h.2) ?_
    | with_reducible refine NeedI.mk (fun h => h.1) ?_
    | with_reducible exact Done.mk
    | with_reducible refine Both.mk (fun _ => ?_) (fun _ => ?_)
    | with_reducible refine Both2.mk (fun _ => ?_) ?_
    | with_reducible refine Need.mk (by first | with_reducible exact CEq.refl _ | (simp only [decide_eq_true_eq, decide_eq_false_iff_not, Bool.or_eq_true, Bool.and_eq_true, Bool.or_eq_false_iff, Int.toNat_natCast, addN_eq, cond_false, cond_true, rng] at *; omega)) ?_
    | (fail_if_success with_reducible refine LoopVC.mk ?_
       fail_if_success with_reducible refine Need.mk ?_ ?_
       fail_if_success with_reducible refine CallVC.mk ?_
       fail_if_success with_reducible refine LoopEnd.mk ?_
       fail_if_success with_reducible refine Out.mk ?_
       fail_if_success with_reducible show False
       fail_if_success with_reducible refine NeedI.mk ?_ ?_
       conv => whnf)
  refine CallVC.mk' (fun _ => fits_ok hm hf d w (by omega) (by omega)) (fun _ => .cons ((.many fun j hj => by (rcases (show j = 0 ∨ j = 1 by omega) with rfl | rfl <;> exact CEq.refl _))) (.cons ((.many fun j hj => by (rcases (show j = 0 ∨ j = 1 by omega) with rfl | rfl <;> exact CEq.refl _))) .nil)) ?_
  repeat' first
    | with_reducible refine NeedI.mk (fun h => h) ?_
    | with_reducible refine NeedI.mk (fun h => h.2) ?_
    | with_reducible refine NeedI.mk (fun h => h.1) ?_
    | with_reducible exact Done.mk
    | with_reducible refine Both.mk (fun _ => ?_) (fun _ => ?_)
    | with_reducible refine Both2.mk (fun _ => ?_) ?_
    | with_reducible refine Need.mk (by first | with_reducible exact CEq.refl _ | (simp only [decide_eq_true_eq, decide_eq_false_iff_not, Bool.or_eq_true, Bool.and_eq_true, Bool.or_eq_false_iff, Int.toNat_natCast, addN_eq, cond_false, cond_true, rng] at *; omega)) ?_
    | (fail_if_success with_reducible refine LoopVC.mk ?_
       fail_if_success with_reducible refine Need.mk ?_ ?_
       fail_if_success with_reducible refine CallVC.mk ?_
       fail_if_success with_reducible refine LoopEnd.mk ?_
       fail_if_success with_reducible refine Out.mk ?_
       fail_if_success with_reducible show False
       fail_if_success with_reducible refine NeedI.mk ?_ ?_
       conv => whnf)
  · rename_i h
    have h1 : ¬ (right d ∧ fits d w) := by
      rintro ⟨a, b⟩; rw [decide_eq_true a, decide_eq_true b] at h; exact absurd h (by decide)
    have e1 : d.put w = d := by unfold Dsk.put; exact if_neg fun h => h1 ⟨h.1, h.2.1⟩
    have e2 : d.putE w = 1 := by unfold Dsk.putE; exact if_neg h1
    rw [e1, e2]
    repeat' first
      | with_reducible refine NeedI.mk (fun h => h) ?_
      | with_reducible refine NeedI.mk (fun h => h.2) ?_
      | with_reducible refine NeedI.mk (fun h => h.1) ?_
      | with_reducible exact Done.mk
      | with_reducible refine Both.mk (fun _ => ?_) (fun _ => ?_)
      | with_reducible refine Both2.mk (fun _ => ?_) ?_
      | with_reducible refine Need.mk (by with_reducible exact Nat.le_of_eq (Nat.zero_add _)) ?_
      | (fail_if_success with_reducible refine LoopVC.mk ?_
         fail_if_success with_reducible refine Need.mk ?_ ?_
         fail_if_success with_reducible refine CallVC.mk ?_
         fail_if_success with_reducible refine LoopEnd.mk ?_
         fail_if_success with_reducible refine Out.mk ?_
         fail_if_success with_reducible show False
         fail_if_success with_reducible refine NeedI.mk ?_ ?_
         conv => whnf)
    refine Need.mk (CEq.refl _) ?_
    repeat' first
      | with_reducible refine NeedI.mk (fun h => h) ?_
      | with_reducible refine NeedI.mk (fun h => h.2) ?_
      | with_reducible refine NeedI.mk (fun h => h.1) ?_
      | with_reducible exact Done.mk
      | with_reducible refine Both.mk (fun _ => ?_) (fun _ => ?_)
      | with_reducible refine Both2.mk (fun _ => ?_) ?_
      | with_reducible refine Need.mk (by with_reducible exact Nat.le_of_eq (Nat.zero_add _)) ?_
      | (fail_if_success with_reducible refine LoopVC.mk ?_
         fail_if_success with_reducible refine Need.mk ?_ ?_
         fail_if_success with_reducible refine CallVC.mk ?_
         fail_if_success with_reducible refine LoopEnd.mk ?_
         fail_if_success with_reducible refine Out.mk ?_
         fail_if_success with_reducible show False
         fail_if_success with_reducible refine NeedI.mk ?_ ?_
         conv => whnf)
    refine Need.mk (CEq.refl _) ?_
    repeat' first
      | with_reducible refine NeedI.mk (fun h => h) ?_
      | with_reducible refine NeedI.mk (fun h => h.2) ?_
      | with_reducible refine NeedI.mk (fun h => h.1) ?_
      | with_reducible exact Done.mk
      | with_reducible refine Both.mk (fun _ => ?_) (fun _ => ?_)
      | with_reducible refine Both2.mk (fun _ => ?_) ?_
      | with_reducible refine Need.mk (by with_reducible exact CEq.refl _) ?_
      | (fail_if_success with_reducible refine LoopVC.mk ?_
         fail_if_success with_reducible refine Need.mk ?_ ?_
         fail_if_success with_reducible refine CallVC.mk ?_
         fail_if_success with_reducible refine LoopEnd.mk ?_
         fail_if_success with_reducible refine Out.mk ?_
         fail_if_success with_reducible show False
         fail_if_success with_reducible refine NeedI.mk ?_ ?_
         conv => whnf)
  · rename_i h h'
    have e1 : d.put w = d := by unfold Dsk.put; exact if_neg fun h => by have := h.2.2; simp at h'; omega
    have e2 : d.putE w = 7 := by
      unfold Dsk.putE
      rw [if_pos, if_neg (by simp at h'; omega)]
      simpa using h
    rw [e1, e2]
    repeat' first
      | with_reducible refine NeedI.mk (fun h => h) ?_
      | with_reducible refine NeedI.mk (fun h => h.2) ?_
      | with_reducible refine NeedI.mk (fun h => h.1) ?_
      | with_reducible exact Done.mk
      | with_reducible refine Both.mk (fun _ => ?_) (fun _ => ?_)
      | with_reducible refine Both2.mk (fun _ => ?_) ?_
      | with_reducible refine Need.mk (by with_reducible exact Nat.le_of_eq (Nat.zero_add _)) ?_
      | (fail_if_success with_reducible refine LoopVC.mk ?_
         fail_if_success with_reducible refine Need.mk ?_ ?_
         fail_if_success with_reducible refine CallVC.mk ?_
         fail_if_success with_reducible refine LoopEnd.mk ?_
         fail_if_success with_reducible refine Out.mk ?_
         fail_if_success with_reducible show False
         fail_if_success with_reducible refine NeedI.mk ?_ ?_
         conv => whnf)
    refine Need.mk (CEq.refl _) ?_
    repeat' first
      | with_reducible refine NeedI.mk (fun h => h) ?_
      | with_reducible refine NeedI.mk (fun h => h.2) ?_
      | with_reducible refine NeedI.mk (fun h => h.1) ?_
      | with_reducible exact Done.mk
      | with_reducible refine Both.mk (fun _ => ?_) (fun _ => ?_)
      | with_reducible refine Both2.mk (fun _ => ?_) ?_
      | with_reducible refine Need.mk (by with_reducible exact Nat.le_of_eq (Nat.zero_add _)) ?_
      | (fail_if_success with_reducible refine LoopVC.mk ?_
         fail_if_success with_reducible refine Need.mk ?_ ?_
         fail_if_success with_reducible refine CallVC.mk ?_
         fail_if_success with_reducible refine LoopEnd.mk ?_
         fail_if_success with_reducible refine Out.mk ?_
         fail_if_success with_reducible show False
         fail_if_success with_reducible refine NeedI.mk ?_ ?_
         conv => whnf)
    refine Need.mk (CEq.refl _) ?_
    repeat' first
      | with_reducible refine NeedI.mk (fun h => h) ?_
      | with_reducible refine NeedI.mk (fun h => h.2) ?_
      | with_reducible refine NeedI.mk (fun h => h.1) ?_
      | with_reducible exact Done.mk
      | with_reducible refine Both.mk (fun _ => ?_) (fun _ => ?_)
      | with_reducible refine Both2.mk (fun _ => ?_) ?_
      | with_reducible refine Need.mk (by with_reducible exact CEq.refl _) ?_
      | (fail_if_success with_reducible refine LoopVC.mk ?_
         fail_if_success with_reducible refine Need.mk ?_ ?_
         fail_if_success with_reducible refine CallVC.mk ?_
         fail_if_success with_reducible refine LoopEnd.mk ?_
         fail_if_success with_reducible refine Out.mk ?_
         fail_if_success with_reducible show False
         fail_if_success with_reducible refine NeedI.mk ?_ ?_
         conv => whnf)
  · rename_i h h'
    have h2 : right d ∧ fits d w := by simpa using h
    have h3 : d.cache.length < 200 := by simp at h'; omega
    have e1 : d.put w = ⟨d.secs, d.cache ++ [w]⟩ := by unfold Dsk.put; exact if_pos ⟨h2.1, h2.2, h3⟩
    have e2 : d.putE w = 0 := by unfold Dsk.putE; rw [if_pos h2, if_pos h3]
    rw [e1, e2]
    refine CallVC.mk' (fun _ => sl_Clone_api_Write_ok hm hcl d.cache.length (fun i j => wrE (d.cache.getD i default) j) (by omega)) (fun _ => .cons (.one (CEq.refl _)) .nil) ?_
    repeat' first
      | with_reducible refine NeedI.mk (fun h => h) ?_
      | with_reducible refine NeedI.mk (fun h => h.2) ?_
      | with_reducible refine NeedI.mk (fun h => h.1) ?_
      | with_reducible exact Done.mk
      | with_reducible refine Both.mk (fun _ => ?_) (fun _ => ?_)
      | with_reducible refine Both2.mk (fun _ => ?_) ?_
      | with_reducible refine Need.mk (by first | with_reducible exact CEq.refl _ | (simp only [decide_eq_true_eq, decide_eq_false_iff_not, Bool.or_eq_true, Bool.and_eq_true, Bool.or_eq_false_iff, Int.toNat_natCast, addN_eq, cond_false, cond_true, rng] at *; omega) | exact ⟨rfl, rfl⟩) ?_
      | (fail_if_success with_reducible refine LoopVC.mk ?_
         fail_if_success with_reducible refine Need.mk ?_ ?_
         fail_if_success with_reducible refine CallVC.mk ?_
         fail_if_success with_reducible refine LoopEnd.mk ?_
         fail_if_success with_reducible refine Out.mk ?_
         fail_if_success with_reducible show False
         fail_if_success with_reducible refine NeedI.mk ?_ ?_
         conv => whnf)
    refine Need.mk (CEq.refl _) ?_
    repeat' first
      | with_reducible refine NeedI.mk (fun h => h) ?_
      | with_reducible refine NeedI.mk (fun h => h.2) ?_
      | with_reducible refine NeedI.mk (fun h => h.1) ?_
      | with_reducible exact Done.mk
      | with_reducible refine Both.mk (fun _ => ?_) (fun _ => ?_)
      | with_reducible refine Both2.mk (fun _ => ?_) ?_
      | with_reducible refine Need.mk (by with_reducible exact Nat.le_of_eq (Nat.zero_add _)) ?_
      | (fail_if_success with_reducible refine LoopVC.mk ?_
         fail_if_success with_reducible refine Need.mk ?_ ?_
         fail_if_success with_reducible refine CallVC.mk ?_
         fail_if_success with_reducible refine LoopEnd.mk ?_
         fail_if_success with_reducible refine Out.mk ?_
         fail_if_success with_reducible show False
         fail_if_success with_reducible refine NeedI.mk ?_ ?_
         conv => whnf)
    refine Need.mk (CEq.list (by simp) fun k hk j hj => ?_) ?_
    · refine appC_list (size := 2) rfl (fun i _ j _ => CEq.refl _) (fun j hj => ?_) k hk j hj
      rcases (show j = 0 ∨ j = 1 by omega) with rfl | rfl <;> exact CEq.refl _
    repeat' first
      | with_reducible refine NeedI.mk (fun h => h) ?_
      | with_reducible refine NeedI.mk (fun h => h.2) ?_
      | with_reducible refine NeedI.mk (fun h => h.1) ?_
      | with_reducible exact Done.mk
      | with_reducible refine Both.mk (fun _ => ?_) (fun _ => ?_)
      | with_reducible refine Both2.mk (fun _ => ?_) ?_
      | with_reducible refine Need.mk (by with_reducible exact CEq.refl _) ?_
      | (fail_if_success with_reducible refine LoopVC.mk ?_
         fail_if_success with_reducible refine Need.mk ?_ ?_
         fail_if_success with_reducible refine CallVC.mk ?_
         fail_if_success with_reducible refine LoopEnd.mk ?_
         fail_if_success with_reducible refine Out.mk ?_
         fail_if_success with_reducible show False
         fail_if_success with_reducible refine NeedI.mk ?_ ?_
         conv => whnf)
end
end Lk.S03
