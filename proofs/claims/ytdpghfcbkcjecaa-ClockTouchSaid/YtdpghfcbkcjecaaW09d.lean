/-
  Chapter 9: the document's own functions.
-/
import Derived.Test.YtdpghfcbkcjecaaW09c
namespace Lk.S09
open Go Lk Lk.C

instance : DecidableEq Frm := fun a b => decidable_of_iff (a.page = b.page ∧ a.pins = b.pins ∧ a.used = b.used) (by cases a; cases b; simp)
instance : DecidableEq Clk := fun a b => decidable_of_iff (a.frames = b.frames ∧ a.hand = b.hand) (by cases a; cases b; simp)
theorem frm_eq (x y : Frm) : (decide (x.page = y.page) && (decide (x.pins = y.pins) && (x.used == y.used))) = decide (x = y) := by
  have : (x = y) ↔ (x.page = y.page ∧ x.pins = y.pins ∧ x.used = y.used) := by cases x; cases y; simp
  simp only [this, Bool.decide_and, Bool.beq_eq_decide_eq]

section
variable {P : Program} {F : Nat → Nat}

set_option maxHeartbeats 8000000 in
set_option maxRecDepth 100000 in
theorem refRight_ok (hm : P.follows .mixedOrders = true) (hk : ref09_Right_k P F) (c : Clk) (hl : c.frames.length ≤ 1000000000) : FnOk P (F 4) [.many 2 (clkE c)] [.one (.im (.bool (decide (right c))))] := by
  refine fnOk hm hk ?_
  repeat' first
    | with_reducible refine NeedI.mk (fun h => h) ?_
    | with_reducible refine NeedI.mk (fun h => h.2) ?_
    | with_reducible refine NeedI.mk (fun h => h.1) ?_
    | with_reducible exact Done.mk
    | with_reducible refine Both.mk (fun _ => ?_) (fun _ => ?_)
    | with_reducible refine Both2.mk (fun _ => ?_) ?_
    | with_reducible refine Need.mk (by with_reducible exact Nat.le_of_eq (Nat.zero_add _)) ?_
    | (fail_if_success with_reducible refine LoopVC.mk ?_
       fail_if_success with_reducible refine Need.mk ?_ ?_
       fail_if_success with_reducible refine CallVC.mk ?_
       fail_if_success with_reducible refine LoopEnd.mk ?_
       fail_if_success with_reducible refine Out.mk ?_
       fail_if_success with_reducible show False
       fail_if_success with_reducible refine NeedI.mk ?_ ?_
       conv => whnf)
  · rename_i h
    simp only [Bool.or_eq_true, decide_eq_true_eq] at h
    refine Need.mk (eB ?_) ?_
    · symm; rw [decide_eq_false_iff_not]; unfold right; omega
    · repeat' first
        | with_reducible refine NeedI.mk (fun h => h) ?_
        | with_reducible refine NeedI.mk (fun h => h.2) ?_
        | with_reducible refine NeedI.mk (fun h => h.1) ?_
        | with_reducible exact Done.mk
        | with_reducible refine Both.mk (fun _ => ?_) (fun _ => ?_)
        | with_reducible refine Both2.mk (fun _ => ?_) ?_
        | with_reducible refine Need.mk (by with_reducible exact Nat.le_of_eq (Nat.zero_add _)) ?_
        | (fail_if_success with_reducible refine LoopVC.mk ?_
           fail_if_success with_reducible refine Need.mk ?_ ?_
           fail_if_success with_reducible refine CallVC.mk ?_
           fail_if_success with_reducible refine LoopEnd.mk ?_
           fail_if_success with_reducible refine Out.mk ?_
           fail_if_success with_reducible show False
           fail_if_success with_reducible refine NeedI.mk ?_ ?_
           conv => whnf)
  · rename_i h1
    simp only [Bool.or_eq_false_iff, decide_eq_false_iff_not] at h1
    refine LoopVC.of (X := {i : Nat // i ≤ c.frames.length ∧ ∀ k, k < i → frmOk (c.frames.getD k default)}) (fun i => stL [(1, .va 1 0 0), (3, .c (.int .i64 i.1))] [(1, vE [.c (slL 3 frmE c.frames), .c (.int .i64 c.hand)])])
      (fun i => c.frames.length - i.1) ⟨0, Nat.zero_le _, fun k hk => by omega⟩ (Le.of ⟨⟨rfl, rfl, rfl⟩, rfl, trivial⟩ ⟨⟨_, rfl, SubE.var2 (CEq.refl _) rfl⟩, trivial⟩) ?_
    rintro Q hQ ⟨i, hi, hi2⟩
    repeat' first
      | with_reducible refine NeedI.mk (fun h => h) ?_
      | with_reducible refine NeedI.mk (fun h => h.2) ?_
      | with_reducible refine NeedI.mk (fun h => h.1) ?_
      | with_reducible exact Done.mk
      | with_reducible refine Both.mk (fun _ => ?_) (fun _ => ?_)
      | with_reducible refine Both2.mk (fun _ => ?_) ?_
      | with_reducible refine Need.mk (by first | omega | with_reducible exact CEq.refl _ | (simp only [decide_eq_true_eq, decide_eq_false_iff_not, Bool.or_eq_true, Bool.and_eq_true, Bool.or_eq_false_iff, Int.toNat_natCast, addN_eq, rng] at *; omega)) ?_
      | (fail_if_success with_reducible refine LoopVC.mk ?_
         fail_if_success with_reducible refine Need.mk ?_ ?_
         fail_if_success with_reducible refine CallVC.mk ?_
         fail_if_success with_reducible refine LoopEnd.mk ?_
         fail_if_success with_reducible refine Out.mk ?_
         fail_if_success with_reducible show False
         fail_if_success with_reducible refine NeedI.mk ?_ ?_
         conv => whnf)
    · rename_i h3 h4
      simp only [decide_eq_true_eq, Bool.or_eq_true] at h3 h4
      refine Out.mk (hQ _ _ ?_)
      repeat' first
        | with_reducible refine NeedI.mk (fun h => h) ?_
        | with_reducible refine NeedI.mk (fun h => h.2) ?_
        | with_reducible refine NeedI.mk (fun h => h.1) ?_
        | with_reducible exact Done.mk
        | with_reducible refine Both.mk (fun _ => ?_) (fun _ => ?_)
        | with_reducible refine Both2.mk (fun _ => ?_) ?_
        | with_reducible refine Need.mk (by with_reducible exact Nat.le_of_eq (Nat.zero_add _)) ?_
        | (fail_if_success with_reducible refine LoopVC.mk ?_
           fail_if_success with_reducible refine Need.mk ?_ ?_
           fail_if_success with_reducible refine CallVC.mk ?_
           fail_if_success with_reducible refine LoopEnd.mk ?_
           fail_if_success with_reducible refine Out.mk ?_
           fail_if_success with_reducible show False
           fail_if_success with_reducible refine NeedI.mk ?_ ?_
           conv => whnf)
      refine Need.mk (eB ?_) ?_
      · symm; rw [decide_eq_false_iff_not]
        intro hr
        have h5 := hr.2.2.2.2 _ (getD_mem (show i < c.frames.length by omega))
        unfold frmOk at h5
        simp only [Int.toNat_natCast] at h4
        omega
      · repeat' first
          | with_reducible refine NeedI.mk (fun h => h) ?_
          | with_reducible refine NeedI.mk (fun h => h.2) ?_
          | with_reducible refine NeedI.mk (fun h => h.1) ?_
          | with_reducible exact Done.mk
          | with_reducible refine Both.mk (fun _ => ?_) (fun _ => ?_)
          | with_reducible refine Both2.mk (fun _ => ?_) ?_
          | with_reducible refine Need.mk (by with_reducible exact Nat.le_of_eq (Nat.zero_add _)) ?_
          | (fail_if_success with_reducible refine LoopVC.mk ?_
             fail_if_success with_reducible refine Need.mk ?_ ?_
             fail_if_success with_reducible refine CallVC.mk ?_
             fail_if_success with_reducible refine LoopEnd.mk ?_
             fail_if_success with_reducible refine Out.mk ?_
             fail_if_success with_reducible show False
             fail_if_success with_reducible refine NeedI.mk ?_ ?_
             conv => whnf)
    · rename_i h3 h4
      simp only [decide_eq_true_eq, Bool.or_eq_false_iff, decide_eq_false_iff_not, Int.toNat_natCast] at h3 h4
      refine LoopEnd.mk ⟨⟨i + 1, by omega, fun k hk => ?_⟩, by show c.frames.length - (i + 1) < c.frames.length - i; omega, Le.of ⟨⟨rfl, rfl, rfl⟩, cI (by simp), trivial⟩ ⟨⟨_, rfl, SubE.var2 (CEq.refl _) rfl⟩, trivial⟩⟩
      rcases Nat.lt_or_ge k i with h | h
      · exact hi2 k h
      · obtain rfl : k = i := by omega
        unfold frmOk
        omega
    · rename_i h3
      simp only [decide_eq_false_iff_not] at h3
      refine Out.mk (hQ _ _ ?_)
      repeat' first
        | with_reducible refine NeedI.mk (fun h => h) ?_
        | with_reducible refine NeedI.mk (fun h => h.2) ?_
        | with_reducible refine NeedI.mk (fun h => h.1) ?_
        | with_reducible exact Done.mk
        | with_reducible refine Both.mk (fun _ => ?_) (fun _ => ?_)
        | with_reducible refine Both2.mk (fun _ => ?_) ?_
        | with_reducible refine Need.mk (by with_reducible exact Nat.le_of_eq (Nat.zero_add _)) ?_
        | (fail_if_success with_reducible refine LoopVC.mk ?_
           fail_if_success with_reducible refine Need.mk ?_ ?_
           fail_if_success with_reducible refine CallVC.mk ?_
           fail_if_success with_reducible refine LoopEnd.mk ?_
           fail_if_success with_reducible refine Out.mk ?_
           fail_if_success with_reducible show False
           fail_if_success with_reducible refine NeedI.mk ?_ ?_
           conv => whnf)
      refine Need.mk (eB ?_) ?_
      · symm; rw [decide_eq_true_eq]
        obtain rfl : i = c.frames.length := by omega
        exact ⟨by omega, by omega, by omega, by omega, all_of_getD hi2⟩
      · repeat' first
          | with_reducible refine NeedI.mk (fun h => h) ?_
          | with_reducible refine NeedI.mk (fun h => h.2) ?_
          | with_reducible refine NeedI.mk (fun h => h.1) ?_
          | with_reducible exact Done.mk
          | with_reducible refine Both.mk (fun _ => ?_) (fun _ => ?_)
          | with_reducible refine Both2.mk (fun _ => ?_) ?_
          | with_reducible refine Need.mk (by with_reducible exact Nat.le_of_eq (Nat.zero_add _)) ?_
          | (fail_if_success with_reducible refine LoopVC.mk ?_
             fail_if_success with_reducible refine Need.mk ?_ ?_
             fail_if_success with_reducible refine CallVC.mk ?_
             fail_if_success with_reducible refine LoopEnd.mk ?_
             fail_if_success with_reducible refine Out.mk ?_
             fail_if_success with_reducible show False
             fail_if_success with_reducible refine NeedI.mk ?_ ?_
             conv => whnf)

theorem list_ext' {α : Type} [Inhabited α] {l m : List α} (h : l.length = m.length) (hg : ∀ i, i < l.length → l.getD i default = m.getD i default) : l = m := by
  apply List.ext_getElem h
  intro i h1 h2
  have := hg i h1
  rwa [getD_eq h1, getD_eq h2] at this

set_option maxHeartbeats 8000000 in
set_option maxRecDepth 100000 in
theorem same_ok (hm : P.follows .mixedOrders = true) (hk : ref09_Same_k P F) (a b : Clk) (hl : a.frames.length ≤ 1000000000) (hlb : b.frames.length ≤ 1000000000) : FnOk P (F 6) [.many 2 (clkE a), .many 2 (clkE b)] [.one (.im (.bool (decide (a = b))))] := by
  refine fnOk hm hk ?_
  repeat' first
    | with_reducible refine NeedI.mk (fun h => h) ?_
    | with_reducible refine NeedI.mk (fun h => h.2) ?_
    | with_reducible refine NeedI.mk (fun h => h.1) ?_
    | with_reducible exact Done.mk
    | with_reducible refine Both.mk (fun _ => ?_) (fun _ => ?_)
    | with_reducible refine Both2.mk (fun _ => ?_) ?_
    | with_reducible refine Need.mk (by with_reducible exact Nat.le_of_eq (Nat.zero_add _)) ?_
    | (fail_if_success with_reducible refine LoopVC.mk ?_
       fail_if_success with_reducible refine Need.mk ?_ ?_
       fail_if_success with_reducible refine CallVC.mk ?_
       fail_if_success with_reducible refine LoopEnd.mk ?_
       fail_if_success with_reducible refine Out.mk ?_
       fail_if_success with_reducible show False
       fail_if_success with_reducible refine NeedI.mk ?_ ?_
       conv => whnf)
  · rename_i h
    simp only [Bool.or_eq_true, Bool.not_eq_true', decide_eq_false_iff_not] at h
    refine Need.mk (eB ?_) ?_
    · symm; rw [decide_eq_false_iff_not]; rintro rfl; omega
    · repeat' first
        | with_reducible refine NeedI.mk (fun h => h) ?_
        | with_reducible refine NeedI.mk (fun h => h.2) ?_
        | with_reducible refine NeedI.mk (fun h => h.1) ?_
        | with_reducible exact Done.mk
        | with_reducible refine Both.mk (fun _ => ?_) (fun _ => ?_)
        | with_reducible refine Both2.mk (fun _ => ?_) ?_
        | with_reducible refine Need.mk (by with_reducible exact Nat.le_of_eq (Nat.zero_add _)) ?_
        | (fail_if_success with_reducible refine LoopVC.mk ?_
           fail_if_success with_reducible refine Need.mk ?_ ?_
           fail_if_success with_reducible refine CallVC.mk ?_
           fail_if_success with_reducible refine LoopEnd.mk ?_
           fail_if_success with_reducible refine Out.mk ?_
           fail_if_success with_reducible show False
           fail_if_success with_reducible refine NeedI.mk ?_ ?_
           conv => whnf)
  · rename_i h1
    simp only [Bool.or_eq_false_iff, Bool.not_eq_false', decide_eq_true_eq] at h1
    have hle : a.frames.length = b.frames.length := by omega
    refine LoopVC.of (X := {i : Nat // i ≤ a.frames.length ∧ ∀ k, k < i → a.frames.getD k default = b.frames.getD k default}) (fun i => stL [(2, .va 2 0 0), (3, .va 3 0 0), (5, .c (.int .i64 i.1))] [(2, vE [.c (slL 3 frmE a.frames), .c (.int .i64 a.hand)]), (3, vE [.c (slL 3 frmE b.frames), .c (.int .i64 b.hand)])])
      (fun i => a.frames.length - i.1) ⟨0, Nat.zero_le _, fun k hk => by omega⟩ (Le.of ⟨⟨rfl, rfl, rfl⟩, ⟨rfl, rfl, rfl⟩, rfl, trivial⟩ ⟨⟨_, rfl, SubE.var2 (CEq.refl _) rfl⟩, ⟨_, rfl, SubE.var2 (CEq.refl _) rfl⟩, trivial⟩) ?_
    rintro Q hQ ⟨i, hi, hi2⟩
    repeat' first
      | with_reducible refine NeedI.mk (fun h => h) ?_
      | with_reducible refine NeedI.mk (fun h => h.2) ?_
      | with_reducible refine NeedI.mk (fun h => h.1) ?_
      | with_reducible exact Done.mk
      | with_reducible refine Both.mk (fun _ => ?_) (fun _ => ?_)
      | with_reducible refine Both2.mk (fun _ => ?_) ?_
      | with_reducible refine Need.mk (by first | omega | with_reducible exact CEq.refl _ | (simp only [decide_eq_true_eq, decide_eq_false_iff_not, Bool.or_eq_true, Bool.and_eq_true, Bool.or_eq_false_iff, Int.toNat_natCast, addN_eq, rng] at *; omega)) ?_
      | (fail_if_success with_reducible refine LoopVC.mk ?_
         fail_if_success with_reducible refine Need.mk ?_ ?_
         fail_if_success with_reducible refine CallVC.mk ?_
         fail_if_success with_reducible refine LoopEnd.mk ?_
         fail_if_success with_reducible refine Out.mk ?_
         fail_if_success with_reducible show False
         fail_if_success with_reducible refine NeedI.mk ?_ ?_
         conv => whnf)
    · rename_i h3 h4
      simp only [Int.toNat_natCast] at h4
      rw [frm_eq] at h4
      simp only [decide_eq_true_eq, cond_true, Bool.not_eq_true', decide_eq_false_iff_not] at h3 h4
      refine Out.mk (hQ _ _ ?_)
      repeat' first
        | with_reducible refine NeedI.mk (fun h => h) ?_
        | with_reducible refine NeedI.mk (fun h => h.2) ?_
        | with_reducible refine NeedI.mk (fun h => h.1) ?_
        | with_reducible exact Done.mk
        | with_reducible refine Both.mk (fun _ => ?_) (fun _ => ?_)
        | with_reducible refine Both2.mk (fun _ => ?_) ?_
        | with_reducible refine Need.mk (by with_reducible exact Nat.le_of_eq (Nat.zero_add _)) ?_
        | (fail_if_success with_reducible refine LoopVC.mk ?_
           fail_if_success with_reducible refine Need.mk ?_ ?_
           fail_if_success with_reducible refine CallVC.mk ?_
           fail_if_success with_reducible refine LoopEnd.mk ?_
           fail_if_success with_reducible refine Out.mk ?_
           fail_if_success with_reducible show False
           fail_if_success with_reducible refine NeedI.mk ?_ ?_
           conv => whnf)
      refine Need.mk (eB ?_) ?_
      · symm; rw [decide_eq_false_iff_not]
        rintro rfl
        exact h4 rfl
      · repeat' first
          | with_reducible refine NeedI.mk (fun h => h) ?_
          | with_reducible refine NeedI.mk (fun h => h.2) ?_
          | with_reducible refine NeedI.mk (fun h => h.1) ?_
          | with_reducible exact Done.mk
          | with_reducible refine Both.mk (fun _ => ?_) (fun _ => ?_)
          | with_reducible refine Both2.mk (fun _ => ?_) ?_
          | with_reducible refine Need.mk (by with_reducible exact Nat.le_of_eq (Nat.zero_add _)) ?_
          | (fail_if_success with_reducible refine LoopVC.mk ?_
             fail_if_success with_reducible refine Need.mk ?_ ?_
             fail_if_success with_reducible refine CallVC.mk ?_
             fail_if_success with_reducible refine LoopEnd.mk ?_
             fail_if_success with_reducible refine Out.mk ?_
             fail_if_success with_reducible show False
             fail_if_success with_reducible refine NeedI.mk ?_ ?_
             conv => whnf)
    · rename_i h3 h4
      simp only [Int.toNat_natCast] at h4
      rw [frm_eq] at h4
      simp only [decide_eq_true_eq, cond_true, Bool.not_eq_false'] at h3 h4
      refine LoopEnd.mk ⟨⟨i + 1, by omega, fun k hk => ?_⟩, by show a.frames.length - (i + 1) < a.frames.length - i; omega, Le.of ⟨⟨rfl, rfl, rfl⟩, ⟨rfl, rfl, rfl⟩, cI (by simp), trivial⟩ ⟨⟨_, rfl, SubE.var2 (CEq.refl _) rfl⟩, ⟨_, rfl, SubE.var2 (CEq.refl _) rfl⟩, trivial⟩⟩
      rcases Nat.lt_or_ge k i with h | h
      · exact hi2 k h
      · obtain rfl : k = i := by omega
        exact h4
    · rename_i h3
      simp only [decide_eq_false_iff_not] at h3
      refine Out.mk (hQ _ _ ?_)
      repeat' first
        | with_reducible refine NeedI.mk (fun h => h) ?_
        | with_reducible refine NeedI.mk (fun h => h.2) ?_
        | with_reducible refine NeedI.mk (fun h => h.1) ?_
        | with_reducible exact Done.mk
        | with_reducible refine Both.mk (fun _ => ?_) (fun _ => ?_)
        | with_reducible refine Both2.mk (fun _ => ?_) ?_
        | with_reducible refine Need.mk (by with_reducible exact Nat.le_of_eq (Nat.zero_add _)) ?_
        | (fail_if_success with_reducible refine LoopVC.mk ?_
           fail_if_success with_reducible refine Need.mk ?_ ?_
           fail_if_success with_reducible refine CallVC.mk ?_
           fail_if_success with_reducible refine LoopEnd.mk ?_
           fail_if_success with_reducible refine Out.mk ?_
           fail_if_success with_reducible show False
           fail_if_success with_reducible refine NeedI.mk ?_ ?_
           conv => whnf)
      refine Need.mk (eB ?_) ?_
      · symm; rw [decide_eq_true_eq]
        obtain rfl : i = a.frames.length := by omega
        have h5 := list_ext' hle hi2
        have h6 := h1.2
        cases a; cases b
        simp_all
      · repeat' first
          | with_reducible refine NeedI.mk (fun h => h) ?_
          | with_reducible refine NeedI.mk (fun h => h.2) ?_
          | with_reducible refine NeedI.mk (fun h => h.1) ?_
          | with_reducible exact Done.mk
          | with_reducible refine Both.mk (fun _ => ?_) (fun _ => ?_)
          | with_reducible refine Both2.mk (fun _ => ?_) ?_
          | with_reducible refine Need.mk (by with_reducible exact Nat.le_of_eq (Nat.zero_add _)) ?_
          | (fail_if_success with_reducible refine LoopVC.mk ?_
             fail_if_success with_reducible refine Need.mk ?_ ?_
             fail_if_success with_reducible refine CallVC.mk ?_
             fail_if_success with_reducible refine LoopEnd.mk ?_
             fail_if_success with_reducible refine Out.mk ?_
             fail_if_success with_reducible show False
             fail_if_success with_reducible refine NeedI.mk ?_ ?_
             conv => whnf)

/-- The document's first one. -/
def Clk.fst (c : Clk) (any : Bool) : Nat := fstN (fun k => c.loose (posK c.n c.h k) && (any || !(c.fr (posK c.n c.h k)).used)) c.n

set_option maxHeartbeats 8000000 in
set_option maxRecDepth 100000 in
theorem first_ok (hm : P.follows .mixedOrders = true) (hk : ref09_first_k P F) (c : Clk) (any : Bool) (hr : right c) : FnOk P (F 16) [.many 2 (clkE c), .one (.bool any)] [.one (.im (.int .i64 (if c.fst any < c.n then (c.fst any : Int) else -1)))] := by
  have hn : 0 < c.n := by have := hr.1; unfold Clk.n; omega
  have hh : (c.h : Int) = c.hand := by have := hr.2.2.1; unfold Clk.h; omega
  have hhn : c.h < c.n := by have := hr.2.2; unfold Clk.n Clk.h; omega
  have hnl : c.n ≤ 8 := hr.2.1
  refine fnOk hm hk ?_
  repeat' first
    | with_reducible refine NeedI.mk (fun h => h) ?_
    | with_reducible refine NeedI.mk (fun h => h.2) ?_
    | with_reducible refine NeedI.mk (fun h => h.1) ?_
    | with_reducible exact Done.mk
    | with_reducible refine Both.mk (fun _ => ?_) (fun _ => ?_)
    | with_reducible refine Both2.mk (fun _ => ?_) ?_
    | with_reducible refine Need.mk (by with_reducible exact Nat.le_of_eq (Nat.zero_add _)) ?_
    | (fail_if_success with_reducible refine LoopVC.mk ?_
       fail_if_success with_reducible refine Need.mk ?_ ?_
       fail_if_success with_reducible refine CallVC.mk ?_
       fail_if_success with_reducible refine LoopEnd.mk ?_
       fail_if_success with_reducible refine Out.mk ?_
       fail_if_success with_reducible show False
       fail_if_success with_reducible refine NeedI.mk ?_ ?_
       conv => whnf)
  refine LoopVC.inv (fun i : Nat => i ≤ c.n ∧ ∀ k, k < i → (c.loose (posK c.n c.h k) && (any || !(c.fr (posK c.n c.h k)).used)) = false) (fun i => stL [(1, .c (.bool any)), (2, .va 2 0 0), (5, .c (.int .i64 i))] [(2, vE [.c (slL 3 frmE c.frames), .c (.int .i64 c.hand)])])
    (fun i => c.n - i) 0 ⟨Nat.zero_le _, fun k hk => by omega⟩ (Le.of ⟨rfl, ⟨rfl, rfl, rfl⟩, rfl, trivial⟩ ⟨⟨_, rfl, SubE.var2 (CEq.refl _) rfl⟩, trivial⟩) ?_
  rintro Q hQ i ⟨hi, hi2⟩
  have hmod : (c.hand + (i : Int)) % (c.frames.length : Int) = (posK c.n c.h i : Int) := by
    rw [← hh]; unfold posK Clk.n; push_cast; rfl
  have hp := posK_lt (h := c.h) (k := i) hn
  have hnl' : c.frames.length ≤ 8 := hnl
  have hb1 := hr.2.2.1
  have hb2 := hr.2.2.2.1
  have hix : 0 ≤ (c.hand + (i : Int)) % (c.frames.length : Int) ∧ (c.hand + (i : Int)) % (c.frames.length : Int) < (c.frames.length : Int) := by
    rw [hmod]; have : c.n = c.frames.length := rfl; omega
  have hpos : 0 ≤ c.hand + (i : Int) ∧ 0 < (c.frames.length : Int) := by omega
  have hrg : rng .i64 (c.hand + (i : Int)) := by simp only [rng]; have : c.n = c.frames.length := rfl; omega
  have hrg1 : rng .i64 ((i : Int) + 1) := by simp only [rng]; omega
  have hkey : ∀ b : Bool, ((decide ((c.frames.getD ((c.hand + (i : Int)) % (c.frames.length : Int)).toNat default).pins = 0) && (any || !(c.frames.getD ((c.hand + (i : Int)) % (c.frames.length : Int)).toNat default).used)) = b) →
      (c.loose (posK c.n c.h i) && (any || !(c.fr (posK c.n c.h i)).used)) = b := fun b hb => by
    rw [hmod, Int.toNat_natCast] at hb
    exact hb
  repeat' first
    | with_reducible refine NeedI.mk (fun h => h) ?_
    | with_reducible refine NeedI.mk (fun h => h.2) ?_
    | with_reducible refine NeedI.mk (fun h => h.1) ?_
    | with_reducible exact Done.mk
    | with_reducible refine Both.mk (fun _ => ?_) (fun _ => ?_)
    | with_reducible refine Both2.mk (fun _ => ?_) ?_
    | with_reducible refine Need.mk (by with_reducible first | exact hrg | exact hix | exact hpos | exact hrg1) ?_
    | (fail_if_success with_reducible refine LoopVC.mk ?_
       fail_if_success with_reducible refine Need.mk ?_ ?_
       fail_if_success with_reducible refine CallVC.mk ?_
       fail_if_success with_reducible refine LoopEnd.mk ?_
       fail_if_success with_reducible refine Out.mk ?_
       fail_if_success with_reducible show False
       fail_if_success with_reducible refine NeedI.mk ?_ ?_
       conv => whnf)
  · rename_i h1 h2
    have h3 := hkey _ h2
    simp only [decide_eq_true_eq] at h1
    have h1 : i < c.n := by unfold Clk.n; omega
    refine Out.mk (hQ _ _ ?_)
    repeat' first
      | with_reducible refine NeedI.mk (fun h => h) ?_
      | with_reducible refine NeedI.mk (fun h => h.2) ?_
      | with_reducible refine NeedI.mk (fun h => h.1) ?_
      | with_reducible exact Done.mk
      | with_reducible refine Both.mk (fun _ => ?_) (fun _ => ?_)
      | with_reducible refine Both2.mk (fun _ => ?_) ?_
      | with_reducible refine Need.mk (by with_reducible exact Nat.le_of_eq (Nat.zero_add _)) ?_
      | (fail_if_success with_reducible refine LoopVC.mk ?_
         fail_if_success with_reducible refine Need.mk ?_ ?_
         fail_if_success with_reducible refine CallVC.mk ?_
         fail_if_success with_reducible refine LoopEnd.mk ?_
         fail_if_success with_reducible refine Out.mk ?_
         fail_if_success with_reducible show False
         fail_if_success with_reducible refine NeedI.mk ?_ ?_
         conv => whnf)
    have he : c.fst any = i := fstN_eq hi hi2 fun _ => h3
    refine Need.mk (eI (by rw [he, if_pos h1])) ?_
    repeat' first
      | with_reducible refine NeedI.mk (fun h => h) ?_
      | with_reducible refine NeedI.mk (fun h => h.2) ?_
      | with_reducible refine NeedI.mk (fun h => h.1) ?_
      | with_reducible exact Done.mk
      | with_reducible refine Both.mk (fun _ => ?_) (fun _ => ?_)
      | with_reducible refine Both2.mk (fun _ => ?_) ?_
      | with_reducible refine Need.mk (by with_reducible exact Nat.le_of_eq (Nat.zero_add _)) ?_
      | (fail_if_success with_reducible refine LoopVC.mk ?_
         fail_if_success with_reducible refine Need.mk ?_ ?_
         fail_if_success with_reducible refine CallVC.mk ?_
         fail_if_success with_reducible refine LoopEnd.mk ?_
         fail_if_success with_reducible refine Out.mk ?_
         fail_if_success with_reducible show False
         fail_if_success with_reducible refine NeedI.mk ?_ ?_
         conv => whnf)
  · rename_i h1 h2
    have h3 := hkey _ h2
    simp only [decide_eq_true_eq] at h1
    have h1 : i < c.n := by unfold Clk.n; omega
    refine LoopEnd.mk ⟨i + 1, ⟨by omega, fun k hk => ?_⟩, by omega, Le.of ⟨rfl, ⟨rfl, rfl, rfl⟩, cI (by simp), trivial⟩ ⟨⟨_, rfl, SubE.var2 (CEq.refl _) rfl⟩, trivial⟩⟩
    rcases Nat.lt_or_ge k i with h | h
    · exact hi2 k h
    · obtain rfl : k = i := by omega
      exact h3
  · rename_i h1
    simp only [decide_eq_false_iff_not] at h1
    have h1 : i = c.n := by have : c.n = c.frames.length := rfl; omega
    refine Out.mk (hQ _ _ ?_)
    repeat' first
      | with_reducible refine NeedI.mk (fun h => h) ?_
      | with_reducible refine NeedI.mk (fun h => h.2) ?_
      | with_reducible refine NeedI.mk (fun h => h.1) ?_
      | with_reducible exact Done.mk
      | with_reducible refine Both.mk (fun _ => ?_) (fun _ => ?_)
      | with_reducible refine Both2.mk (fun _ => ?_) ?_
      | with_reducible refine Need.mk (by with_reducible exact Nat.le_of_eq (Nat.zero_add _)) ?_
      | (fail_if_success with_reducible refine LoopVC.mk ?_
         fail_if_success with_reducible refine Need.mk ?_ ?_
         fail_if_success with_reducible refine CallVC.mk ?_
         fail_if_success with_reducible refine LoopEnd.mk ?_
         fail_if_success with_reducible refine Out.mk ?_
         fail_if_success with_reducible show False
         fail_if_success with_reducible refine NeedI.mk ?_ ?_
         conv => whnf)
    have he : c.fst any = c.n := fstN_eq (Nat.le_refl _) (h1 ▸ hi2) fun h => absurd h (Nat.lt_irrefl _)
    refine Need.mk (eI (by rw [he, if_neg (Nat.lt_irrefl _)])) ?_
    repeat' first
      | with_reducible refine NeedI.mk (fun h => h) ?_
      | with_reducible refine NeedI.mk (fun h => h.2) ?_
      | with_reducible refine NeedI.mk (fun h => h.1) ?_
      | with_reducible exact Done.mk
      | with_reducible refine Both.mk (fun _ => ?_) (fun _ => ?_)
      | with_reducible refine Both2.mk (fun _ => ?_) ?_
      | with_reducible refine Need.mk (by with_reducible exact Nat.le_of_eq (Nat.zero_add _)) ?_
      | (fail_if_success with_reducible refine LoopVC.mk ?_
         fail_if_success with_reducible refine Need.mk ?_ ?_
         fail_if_success with_reducible refine CallVC.mk ?_
         fail_if_success with_reducible refine LoopEnd.mk ?_
         fail_if_success with_reducible refine Out.mk ?_
         fail_if_success with_reducible show False
         fail_if_success with_reducible refine NeedI.mk ?_ ?_
         conv => whnf)
end
end Lk.S09
