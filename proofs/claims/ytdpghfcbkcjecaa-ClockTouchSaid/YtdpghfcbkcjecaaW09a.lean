/-
  Chapter 9: is a clock?
-/
import Derived.Test.YtdpghfcbkcjecaaC09
import Derived.Test.YtdpghfcbkcjecaaLkC
namespace Lk.S09
open Go Lk Lk.C

structure Frm where
  page : Int
  pins : Int
  used : Bool
instance : Inhabited Frm := ⟨⟨0, 0, false⟩⟩
structure Clk where
  frames : List Frm
  hand : Int

def frmE (f : Frm) (j : Nat) : Cell :=
  match j with
  | 0 => .int .i64 f.page
  | 1 => .int .i64 f.pins
  | _ => .bool f.used
def clkE (c : Clk) (j : Nat) : Cell :=
  match j with
  | 0 => slL 3 frmE c.frames
  | _ => .int .i64 c.hand
def frmOk (f : Frm) : Prop := 0 ≤ f.page ∧ f.page ≤ 16 ∧ 0 ≤ f.pins ∧ f.pins ≤ 2147483647
instance (f : Frm) : Decidable (frmOk f) := by unfold frmOk; infer_instance
def right (c : Clk) : Prop := 1 ≤ c.frames.length ∧ c.frames.length ≤ 8 ∧ 0 ≤ c.hand ∧ c.hand < c.frames.length ∧ ∀ f ∈ c.frames, frmOk f
instance (c : Clk) : Decidable (right c) := by unfold right; infer_instance

section
variable {P : Program} {F : Nat → Nat}

set_option maxHeartbeats 8000000 in
set_option maxRecDepth 100000 in
theorem right_ok (hm : P.follows .mixedOrders = true) (hk : clock_Right_k P F) (c : Clk) (hl : c.frames.length ≤ 1000000000) : FnOk P (F 5) [.many 2 (clkE c)] [.one (.im (.bool (decide (right c))))] := by
  refine fnOk hm hk ?_
  repeat' first
    | with_reducible refine NeedI.mk (fun h => h) ?_
    | with_reducible refine NeedI.mk (fun h => h.2) ?_
    | with_reducible refine NeedI.mk (fun h => h.1) ?_
    | with_reducible exact Done.mk
    | with_reducible refine Both.mk (fun _ => ?_) (fun _ => ?_)
    | with_reducible refine Both2.mk (fun _ => ?_) ?_
    | with_reducible refine Need.mk (by first | omega | with_reducible exact CEq.refl _) ?_
    | (fail_if_success with_reducible refine LoopVC.mk ?_
       fail_if_success with_reducible refine Need.mk ?_ ?_
       fail_if_success with_reducible refine CallVC.mk ?_
       fail_if_success with_reducible refine LoopEnd.mk ?_
       fail_if_success with_reducible refine Out.mk ?_
       fail_if_success with_reducible show False
       fail_if_success with_reducible refine NeedI.mk ?_ ?_
       conv => whnf)
  · rename_i h
    simp only [Bool.or_eq_true, decide_eq_true_eq] at h
    refine Need.mk (eB ?_) ?_
    · symm; rw [decide_eq_false_iff_not]; unfold right; omega
    · repeat' first
        | with_reducible refine NeedI.mk (fun h => h) ?_
        | with_reducible refine NeedI.mk (fun h => h.2) ?_
        | with_reducible refine NeedI.mk (fun h => h.1) ?_
        | with_reducible exact Done.mk
        | with_reducible refine Both.mk (fun _ => ?_) (fun _ => ?_)
        | with_reducible refine Both2.mk (fun _ => ?_) ?_
        | with_reducible refine Need.mk (by with_reducible exact CEq.refl _) ?_
        | (fail_if_success with_reducible refine LoopVC.mk ?_
           fail_if_success with_reducible refine Need.mk ?_ ?_
           fail_if_success with_reducible refine CallVC.mk ?_
           fail_if_success with_reducible refine LoopEnd.mk ?_
           fail_if_success with_reducible refine Out.mk ?_
           fail_if_success with_reducible show False
           fail_if_success with_reducible refine NeedI.mk ?_ ?_
           conv => whnf)
  · rename_i h h'
    simp only [Bool.or_eq_true, decide_eq_true_eq] at h'
    refine Need.mk (eB ?_) ?_
    · symm; rw [decide_eq_false_iff_not]; unfold right; omega
    · repeat' first
        | with_reducible refine NeedI.mk (fun h => h) ?_
        | with_reducible refine NeedI.mk (fun h => h.2) ?_
        | with_reducible refine NeedI.mk (fun h => h.1) ?_
        | with_reducible exact Done.mk
        | with_reducible refine Both.mk (fun _ => ?_) (fun _ => ?_)
        | with_reducible refine Both2.mk (fun _ => ?_) ?_
        | with_reducible refine Need.mk (by with_reducible exact CEq.refl _) ?_
        | (fail_if_success with_reducible refine LoopVC.mk ?_
           fail_if_success with_reducible refine Need.mk ?_ ?_
           fail_if_success with_reducible refine CallVC.mk ?_
           fail_if_success with_reducible refine LoopEnd.mk ?_
           fail_if_success with_reducible refine Out.mk ?_
           fail_if_success with_reducible show False
           fail_if_success with_reducible refine NeedI.mk ?_ ?_
           conv => whnf)
  · rename_i h1 h2
    simp only [Bool.or_eq_false_iff, decide_eq_false_iff_not] at h1 h2
    refine LoopVC.of (X := {i : Nat // i ≤ c.frames.length ∧ ∀ k, k < i → frmOk (c.frames.getD k default)}) (fun i => stL [(27, .c (slL 3 frmE c.frames)), (28, .c (.int .i64 c.frames.length)), (29, .c (.int .i64 i.1))] [])
      (fun i => c.frames.length - i.1) ⟨0, Nat.zero_le _, fun k hk => by omega⟩ (Le.of ⟨CEq.refl _, rfl, rfl, trivial⟩ trivial) ?_
    rintro Q hQ ⟨i, hi, hi2⟩
    repeat' first
      | with_reducible refine NeedI.mk (fun h => h) ?_
      | with_reducible refine NeedI.mk (fun h => h.2) ?_
      | with_reducible refine NeedI.mk (fun h => h.1) ?_
      | with_reducible exact Done.mk
      | with_reducible refine Both.mk (fun _ => ?_) (fun _ => ?_)
      | with_reducible refine Both2.mk (fun _ => ?_) ?_
      | with_reducible refine Need.mk (by first | with_reducible exact CEq.refl _ | (simp only [decide_eq_true_eq, decide_eq_false_iff_not, rng] at *; omega)) ?_
      | (fail_if_success with_reducible refine LoopVC.mk ?_
         fail_if_success with_reducible refine Need.mk ?_ ?_
         fail_if_success with_reducible refine CallVC.mk ?_
         fail_if_success with_reducible refine LoopEnd.mk ?_
         fail_if_success with_reducible refine Out.mk ?_
         fail_if_success with_reducible show False
         fail_if_success with_reducible refine NeedI.mk ?_ ?_
         conv => whnf)
    · rename_i h3 h4
      simp only [decide_eq_true_eq, Bool.or_eq_true] at h3 h4
      refine Out.mk (hQ _ _ ?_)
      repeat' first
        | with_reducible refine NeedI.mk (fun h => h) ?_
        | with_reducible refine NeedI.mk (fun h => h.2) ?_
        | with_reducible refine NeedI.mk (fun h => h.1) ?_
        | with_reducible exact Done.mk
        | with_reducible refine Both.mk (fun _ => ?_) (fun _ => ?_)
        | with_reducible refine Both2.mk (fun _ => ?_) ?_
        | with_reducible refine Need.mk (by with_reducible exact Nat.le_of_eq (Nat.zero_add _)) ?_
        | (fail_if_success with_reducible refine LoopVC.mk ?_
           fail_if_success with_reducible refine Need.mk ?_ ?_
           fail_if_success with_reducible refine CallVC.mk ?_
           fail_if_success with_reducible refine LoopEnd.mk ?_
           fail_if_success with_reducible refine Out.mk ?_
           fail_if_success with_reducible show False
           fail_if_success with_reducible refine NeedI.mk ?_ ?_
           conv => whnf)
      refine Need.mk (eB ?_) ?_
      · symm; rw [decide_eq_false_iff_not]
        intro hr
        have h5 := hr.2.2.2.2 _ (getD_mem (show i < c.frames.length by omega))
        unfold frmOk at h5
        simp only [Int.toNat_natCast] at h4
        omega
      · repeat' first
          | with_reducible refine NeedI.mk (fun h => h) ?_
          | with_reducible refine NeedI.mk (fun h => h.2) ?_
          | with_reducible refine NeedI.mk (fun h => h.1) ?_
          | with_reducible exact Done.mk
          | with_reducible refine Both.mk (fun _ => ?_) (fun _ => ?_)
          | with_reducible refine Both2.mk (fun _ => ?_) ?_
          | with_reducible refine Need.mk (by with_reducible exact CEq.refl _) ?_
          | (fail_if_success with_reducible refine LoopVC.mk ?_
             fail_if_success with_reducible refine Need.mk ?_ ?_
             fail_if_success with_reducible refine CallVC.mk ?_
             fail_if_success with_reducible refine LoopEnd.mk ?_
             fail_if_success with_reducible refine Out.mk ?_
             fail_if_success with_reducible show False
             fail_if_success with_reducible refine NeedI.mk ?_ ?_
             conv => whnf)
    · rename_i h3 h4
      simp only [decide_eq_true_eq, Bool.or_eq_false_iff, decide_eq_false_iff_not, Int.toNat_natCast] at h3 h4
      refine LoopEnd.mk ⟨⟨i + 1, by omega, fun k hk => ?_⟩, by show c.frames.length - (i + 1) < c.frames.length - i; omega, Le.of ⟨CEq.refl _, rfl, cI (by simp), trivial⟩ trivial⟩
      rcases Nat.lt_or_ge k i with h | h
      · exact hi2 k h
      · obtain rfl : k = i := by omega
        unfold frmOk
        omega
    · rename_i h3
      simp only [decide_eq_false_iff_not] at h3
      refine Out.mk (hQ _ _ ?_)
      repeat' first
        | with_reducible refine NeedI.mk (fun h => h) ?_
        | with_reducible refine NeedI.mk (fun h => h.2) ?_
        | with_reducible refine NeedI.mk (fun h => h.1) ?_
        | with_reducible exact Done.mk
        | with_reducible refine Both.mk (fun _ => ?_) (fun _ => ?_)
        | with_reducible refine Both2.mk (fun _ => ?_) ?_
        | with_reducible refine Need.mk (by with_reducible exact Nat.le_of_eq (Nat.zero_add _)) ?_
        | (fail_if_success with_reducible refine LoopVC.mk ?_
           fail_if_success with_reducible refine Need.mk ?_ ?_
           fail_if_success with_reducible refine CallVC.mk ?_
           fail_if_success with_reducible refine LoopEnd.mk ?_
           fail_if_success with_reducible refine Out.mk ?_
           fail_if_success with_reducible show False
           fail_if_success with_reducible refine NeedI.mk ?_ ?_
           conv => whnf)
      refine Need.mk (eB ?_) ?_
      · symm; rw [decide_eq_true_eq]
        obtain rfl : i = c.frames.length := by omega
        exact ⟨by omega, by omega, by omega, by omega, all_of_getD hi2⟩
      · repeat' first
          | with_reducible refine NeedI.mk (fun h => h) ?_
          | with_reducible refine NeedI.mk (fun h => h.2) ?_
          | with_reducible refine NeedI.mk (fun h => h.1) ?_
          | with_reducible exact Done.mk
          | with_reducible refine Both.mk (fun _ => ?_) (fun _ => ?_)
          | with_reducible refine Both2.mk (fun _ => ?_) ?_
          | with_reducible refine Need.mk (by with_reducible exact CEq.refl _) ?_
          | (fail_if_success with_reducible refine LoopVC.mk ?_
             fail_if_success with_reducible refine Need.mk ?_ ?_
             fail_if_success with_reducible refine CallVC.mk ?_
             fail_if_success with_reducible refine LoopEnd.mk ?_
             fail_if_success with_reducible refine Out.mk ?_
             fail_if_success with_reducible show False
             fail_if_success with_reducible refine NeedI.mk ?_ ?_
             conv => whnf)
end
end Lk.S09
