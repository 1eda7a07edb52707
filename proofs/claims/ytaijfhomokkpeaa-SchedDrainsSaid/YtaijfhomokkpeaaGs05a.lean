/-
  Gs05a: what these chapters need.
-/
import Derived.Test.YtaijfhomokkpeaaCCc
import Derived.Test.YtaijfhomokkpeaaLkC
set_option linter.unusedSimpArgs false
set_option linter.unusedVariables false
namespace Lk.S05
open Go Lk Lk.C
structure Ln where
  weight : Int
  deficit : Int
  costs : List Int
deriving DecidableEq
instance : Inhabited Ln := ⟨⟨0, 0, []⟩⟩
structure Ls where
  list : List Ln
  at_ : Int
  given : Bool
deriving DecidableEq
def intE (k : Int) (_ : Nat) : Cell := .int .i64 k
def lnE (x : Ln) (j : Nat) : Cell :=
  match j with
  | 0 => .int .i64 x.weight
  | 1 => .int .i64 x.deficit
  | _ => slL 1 intE x.costs
def lsE (l : Ls) (j : Nat) : Cell :=
  match j with
  | 0 => slL 3 lnE l.list
  | 1 => .int .i64 l.at_
  | _ => .bool l.given
/-- The greatest Deficit. -/
def mst (l : Ls) (i : Nat) : Int := if (i : Int) = l.at_ ∧ l.given = true then 39 else 7
def okLn (m : Int) (x : Ln) : Prop := (1 ≤ x.weight ∧ x.weight ≤ 8) ∧ (0 ≤ x.deficit ∧ x.deficit ≤ m) ∧ x.costs.length ≤ 200 ∧ ∀ c ∈ x.costs, 1 ≤ c ∧ c ≤ 8
instance (m : Int) (x : Ln) : Decidable (okLn m x) := by unfold okLn; infer_instance
def right (l : Ls) : Prop := (1 ≤ l.list.length ∧ l.list.length ≤ 6) ∧ (0 ≤ l.at_ ∧ l.at_ < l.list.length) ∧ ∀ i, i < l.list.length → okLn (mst l i) (l.list.getD i default)
instance (l : Ls) : Decidable (right l) := by unfold right; infer_instance
/-- Lanes that can be gone through. -/
structure Tiny (l : Ls) : Prop where
  n : l.list.length ≤ 1000000
  c : ∀ x ∈ l.list, x.costs.length ≤ 1000000
section
variable {P : Program} {F : Nat → Nat}
set_option maxHeartbeats 8000000 in
set_option maxRecDepth 100000 in
theorem right_ok (hm : P.follows .mixedOrders = true) (hk : lanes_Right_k P F) (l : Ls) (T : Tiny l) : FnOk P (F 76) [.many 3 (lsE l)] [.one (.im (.bool (decide (right l))))] := by
  refine fnOk hm hk ?_
  have hn := T.n
  repeat' first | (with_reducible first | refine nI1 ?_ | refine nI2 ?_ | refine nI3 ?_ | exact ⟨⟩ | refine Both.mk (fun _ => ?_) fun _ => ?_ | refine Both2.mk (fun _ => ?_) ?_ | (refine Need.mk ?_ ?_; (first | omega | exact CEq.refl _ | (dsimp only [rng]; omega) | (simp only [decide_eq_true_eq, decide_eq_false_iff_not, Bool.or_eq_true, Bool.and_eq_true, Bool.or_eq_false_iff, Int.toNat_natCast, addN_eq, cond_false, cond_true, rng] at *; omega) | exact ⟨rfl, rfl⟩))) | ((with_reducible refine Need.mk ?_ ?_); exact CEq.refl _) | ((with_reducible fail_if_success first | constructor | show False); conv => whnf)
  · rename_i h
    rw [decide_eq_false (fun x => by
      obtain ⟨⟨a, b⟩, ⟨c, d⟩, -⟩ := x
      simp only [Bool.or_eq_true, decide_eq_true_eq] at h; omega)]
    repeat' first | (with_reducible first | refine nI1 ?_ | refine nI2 ?_ | refine nI3 ?_ | exact ⟨⟩ | refine Both.mk (fun _ => ?_) fun _ => ?_ | refine Both2.mk (fun _ => ?_) ?_ | (refine Need.mk ?_ ?_; (first | omega | exact CEq.refl _ | (dsimp only [rng]; omega) | (simp only [decide_eq_true_eq, decide_eq_false_iff_not, Bool.or_eq_true, Bool.and_eq_true, Bool.or_eq_false_iff, Int.toNat_natCast, addN_eq, cond_false, cond_true, rng] at *; omega) | exact ⟨rfl, rfl⟩))) | ((with_reducible refine Need.mk ?_ ?_); exact CEq.refl _) | ((with_reducible fail_if_success first | constructor | show False); conv => whnf)
  · rename_i h
    simp only [Bool.or_eq_false_iff, decide_eq_false_iff_not] at h
    refine LoopVC.inv (fun i : Nat => i ≤ l.list.length ∧ ∀ k, k < i → okLn (mst l k) (l.list.getD k default)) (fun i => stL [(1, .va 1 0 0), (32, .c (slL 3 lnE l.list)), (33, .c (.int .i64 l.list.length)), (34, .c (.int .i64 i))]
      [(1, vE [.c (slL 3 lnE l.list), .c (.int .i64 l.at_), .c (.bool l.given)])]) (fun i => l.list.length - i) 0 ⟨Nat.zero_le _, fun k hk => by omega⟩ ?_ ?_
    · (refine Le.of ?_ ?_ <;> repeat' first | exact trivial | exact CEq.refl _ | exact rfl | exact cI (by push_cast; first | rfl | omega) | exact SubE.dat fun _ _ _ _ => CEq.refl _ | refine SubE.var2 ?_ ?_ | refine SubE.var1 ?_ | refine SubE.var3 ?_ ?_ ?_ | refine SubE.var4 ?_ ?_ ?_ ?_ | refine SubE.var5 ?_ ?_ ?_ ?_ ?_ | refine SubE.varN ?_ | refine Exists.intro _ (And.intro rfl ?_) | refine And.intro ?_ ?_)
    rintro Q hQ i ⟨hi, hok⟩
    repeat' first | (with_reducible first | refine nI1 ?_ | refine nI2 ?_ | refine nI3 ?_ | exact ⟨⟩ | refine Both.mk (fun _ => ?_) fun _ => ?_ | refine Both2.mk (fun _ => ?_) ?_ | (refine Need.mk ?_ ?_; (first | omega | exact CEq.refl _ | (dsimp only [rng]; omega) | (simp only [decide_eq_true_eq, decide_eq_false_iff_not, Bool.or_eq_true, Bool.and_eq_true, Bool.or_eq_false_iff, Int.toNat_natCast, addN_eq, cond_false, cond_true, rng] at *; omega) | exact ⟨rfl, rfl⟩))) | ((with_reducible refine Need.mk ?_ ?_); exact CEq.refl _) | ((with_reducible fail_if_success first | constructor | show False); conv => whnf)
    · rename_i h3 h4 h5
      have h3 : (i : Int) < l.list.length := of_decide_eq_true h3
      have hm0 : mst l i = 39 := if_pos (by have h4 := h4; simp at h4; first | exact h4 | exact fun x => absurd x.2 (by rw [h4 x.1]; decide))
      rw [Int.toNat_natCast] at *
      refine Out.mk (hQ _ _ ?_)
      rw [decide_eq_false (fun x => by
        obtain ⟨⟨a1, a2⟩, ⟨b1, b2⟩, -⟩ := x.2.2 i (by omega)
        simp only [Bool.or_eq_true, decide_eq_true_eq] at h5; omega)]
      repeat' first | (with_reducible first | refine nI1 ?_ | refine nI2 ?_ | refine nI3 ?_ | exact ⟨⟩ | refine Both.mk (fun _ => ?_) fun _ => ?_ | refine Both2.mk (fun _ => ?_) ?_ | (refine Need.mk ?_ ?_; (first | omega | exact CEq.refl _ | (dsimp only [rng]; omega) | (simp only [decide_eq_true_eq, decide_eq_false_iff_not, Bool.or_eq_true, Bool.and_eq_true, Bool.or_eq_false_iff, Int.toNat_natCast, addN_eq, cond_false, cond_true, rng] at *; omega) | exact ⟨rfl, rfl⟩))) | ((with_reducible refine Need.mk ?_ ?_); exact CEq.refl _) | ((with_reducible fail_if_success first | constructor | show False); conv => whnf)
    · rename_i h3 h4 h5 h6
      have h3 : (i : Int) < l.list.length := of_decide_eq_true h3
      have hm0 : mst l i = 39 := if_pos (by have h4 := h4; simp at h4; first | exact h4 | exact fun x => absurd x.2 (by rw [h4 x.1]; decide))
      rw [Int.toNat_natCast] at *
      refine Out.mk (hQ _ _ ?_)
      rw [decide_eq_false (fun x => by
        obtain ⟨-, -, a, -⟩ := x.2.2 i (by omega)
        simp only [decide_eq_true_eq] at h6; omega)]
      repeat' first | (with_reducible first | refine nI1 ?_ | refine nI2 ?_ | refine nI3 ?_ | exact ⟨⟩ | refine Both.mk (fun _ => ?_) fun _ => ?_ | refine Both2.mk (fun _ => ?_) ?_ | (refine Need.mk ?_ ?_; (first | omega | exact CEq.refl _ | (dsimp only [rng]; omega) | (simp only [decide_eq_true_eq, decide_eq_false_iff_not, Bool.or_eq_true, Bool.and_eq_true, Bool.or_eq_false_iff, Int.toNat_natCast, addN_eq, cond_false, cond_true, rng] at *; omega) | exact ⟨rfl, rfl⟩))) | ((with_reducible refine Need.mk ?_ ?_); exact CEq.refl _) | ((with_reducible fail_if_success first | constructor | show False); conv => whnf)
    · rename_i h3 h4 h5 h6
      have h3 : (i : Int) < l.list.length := of_decide_eq_true h3
      have hm0 : mst l i = 39 := if_pos (by have h4 := h4; simp at h4; first | exact h4 | exact fun x => absurd x.2 (by rw [h4 x.1]; decide))
      rw [Int.toNat_natCast] at *
      simp only [Bool.or_eq_false_iff, decide_eq_false_iff_not] at h5 h6
      have hcl := T.c _ (getD_mem (show i < l.list.length by omega))
      refine LoopVC.inv (fun k : Nat => k ≤ (l.list.getD i default).costs.length ∧ ∀ j, j < k → 1 ≤ (l.list.getD i default).costs.getD j default ∧ (l.list.getD i default).costs.getD j default ≤ 8) (fun k => stL [(1, .va 1 0 0), (32, .c (slL 3 lnE l.list)), (33, .c (.int .i64 l.list.length)), (34, .c (.int .i64 i)), (71, .c (slL 1 intE (l.list.getD i default).costs)), (72, .c (.int .i64 (l.list.getD i default).costs.length)), (73, .c (.int .i64 k))]
        [(1, vE [.c (slL 3 lnE l.list), .c (.int .i64 l.at_), .c (.bool l.given)])]) (fun k => (l.list.getD i default).costs.length - k) 0 ⟨Nat.zero_le _, fun j hj => by omega⟩ ?_ ?_
      · (refine Le.of ?_ ?_ <;> repeat' first | exact trivial | exact CEq.refl _ | exact rfl | exact cI (by push_cast; first | rfl | omega) | exact SubE.dat fun _ _ _ _ => CEq.refl _ | refine SubE.var2 ?_ ?_ | refine SubE.var1 ?_ | refine SubE.var3 ?_ ?_ ?_ | refine SubE.var4 ?_ ?_ ?_ ?_ | refine SubE.var5 ?_ ?_ ?_ ?_ ?_ | refine SubE.varN ?_ | refine Exists.intro _ (And.intro rfl ?_) | refine And.intro ?_ ?_)
      rintro Q2 hQ2 k ⟨hk, hkc⟩
      repeat' first | (with_reducible first | refine nI1 ?_ | refine nI2 ?_ | refine nI3 ?_ | exact ⟨⟩ | refine Both.mk (fun _ => ?_) fun _ => ?_ | refine Both2.mk (fun _ => ?_) ?_ | (refine Need.mk ?_ ?_; (first | omega | exact CEq.refl _ | (dsimp only [rng]; omega) | (simp only [decide_eq_true_eq, decide_eq_false_iff_not, Bool.or_eq_true, Bool.and_eq_true, Bool.or_eq_false_iff, Int.toNat_natCast, addN_eq, cond_false, cond_true, rng] at *; omega) | exact ⟨rfl, rfl⟩))) | ((with_reducible refine Need.mk ?_ ?_); exact CEq.refl _) | ((with_reducible fail_if_success first | constructor | show False); conv => whnf)
      · rename_i h7 h8
        have h7 : (k : Int) < (l.list.getD i default).costs.length := of_decide_eq_true h7
        refine Out.mk (hQ2 _ _ ?_)
        refine Out.mk (hQ _ _ ?_)
        rw [decide_eq_false (fun x => by
          obtain ⟨-, -, -, a⟩ := x.2.2 i (by omega)
          have := a _ (getD_mem (show k < (l.list.getD i default).costs.length by omega))
          rw [Int.toNat_natCast] at h8
          simp only [Bool.or_eq_true, decide_eq_true_eq] at h8; omega)]
        repeat' first | (with_reducible first | refine nI1 ?_ | refine nI2 ?_ | refine nI3 ?_ | exact ⟨⟩ | refine Both.mk (fun _ => ?_) fun _ => ?_ | refine Both2.mk (fun _ => ?_) ?_ | (refine Need.mk ?_ ?_; (first | omega | exact CEq.refl _ | (dsimp only [rng]; omega) | (simp only [decide_eq_true_eq, decide_eq_false_iff_not, Bool.or_eq_true, Bool.and_eq_true, Bool.or_eq_false_iff, Int.toNat_natCast, addN_eq, cond_false, cond_true, rng] at *; omega) | exact ⟨rfl, rfl⟩))) | ((with_reducible refine Need.mk ?_ ?_); exact CEq.refl _) | ((with_reducible fail_if_success first | constructor | show False); conv => whnf)
      · rename_i h7 h8
        have h7 : (k : Int) < (l.list.getD i default).costs.length := of_decide_eq_true h7
        rw [Int.toNat_natCast] at h8
        simp only [Bool.or_eq_false_iff, decide_eq_false_iff_not] at h8
        refine LoopEnd.mk ⟨k + 1, ⟨by omega, fun j hj => ?_⟩, by omega, by (refine Le.of ?_ ?_ <;> repeat' first | exact trivial | exact CEq.refl _ | exact rfl | exact cI (by push_cast; first | rfl | omega) | exact SubE.dat fun _ _ _ _ => CEq.refl _ | refine SubE.var2 ?_ ?_ | refine SubE.var1 ?_ | refine SubE.var3 ?_ ?_ ?_ | refine SubE.var4 ?_ ?_ ?_ ?_ | refine SubE.var5 ?_ ?_ ?_ ?_ ?_ | refine SubE.varN ?_ | refine Exists.intro _ (And.intro rfl ?_) | refine And.intro ?_ ?_)⟩
        rcases Nat.lt_or_ge j k with h9 | h9
        · exact hkc j h9
        · obtain rfl : j = k := by omega
          omega
      · rename_i h7
        have h7 : ¬ (k : Int) < (l.list.getD i default).costs.length := of_decide_eq_false h7
        refine Out.mk (hQ2 _ _ ?_)
        repeat' first | (with_reducible first | refine nI1 ?_ | refine nI2 ?_ | refine nI3 ?_ | exact ⟨⟩ | refine Both.mk (fun _ => ?_) fun _ => ?_ | refine Both2.mk (fun _ => ?_) ?_ | (refine Need.mk ?_ ?_; (first | omega | exact CEq.refl _ | (dsimp only [rng]; omega) | (simp only [decide_eq_true_eq, decide_eq_false_iff_not, Bool.or_eq_true, Bool.and_eq_true, Bool.or_eq_false_iff, Int.toNat_natCast, addN_eq, cond_false, cond_true, rng] at *; omega) | exact ⟨rfl, rfl⟩))) | ((with_reducible refine Need.mk ?_ ?_); exact CEq.refl _) | ((with_reducible fail_if_success first | constructor | show False); conv => whnf)
        refine LoopEnd.mk ⟨i + 1, ⟨by omega, fun j hj => ?_⟩, by omega, by (refine Le.of ?_ ?_ <;> repeat' first | exact trivial | exact CEq.refl _ | exact rfl | exact cI (by push_cast; first | rfl | omega) | exact SubE.dat fun _ _ _ _ => CEq.refl _ | refine SubE.var2 ?_ ?_ | refine SubE.var1 ?_ | refine SubE.var3 ?_ ?_ ?_ | refine SubE.var4 ?_ ?_ ?_ ?_ | refine SubE.var5 ?_ ?_ ?_ ?_ ?_ | refine SubE.varN ?_ | refine Exists.intro _ (And.intro rfl ?_) | refine And.intro ?_ ?_)⟩
        rcases Nat.lt_or_ge j i with h9 | h9
        · exact hok j h9
        · obtain rfl : j = i := by omega
          rw [hm0]
          exact ⟨by omega, by omega, by omega, all_of_getD fun j hj => hkc j (by omega)⟩
    · rename_i h3 h4 h5
      have h3 : (i : Int) < l.list.length := of_decide_eq_true h3
      have hm0 : mst l i = 7 := if_neg (by have h4 := h4; simp at h4; first | exact h4 | exact fun x => absurd x.2 (by rw [h4 x.1]; decide))
      rw [Int.toNat_natCast] at *
      refine Out.mk (hQ _ _ ?_)
      rw [decide_eq_false (fun x => by
        obtain ⟨⟨a1, a2⟩, ⟨b1, b2⟩, -⟩ := x.2.2 i (by omega)
        simp only [Bool.or_eq_true, decide_eq_true_eq] at h5; omega)]
      repeat' first | (with_reducible first | refine nI1 ?_ | refine nI2 ?_ | refine nI3 ?_ | exact ⟨⟩ | refine Both.mk (fun _ => ?_) fun _ => ?_ | refine Both2.mk (fun _ => ?_) ?_ | (refine Need.mk ?_ ?_; (first | omega | exact CEq.refl _ | (dsimp only [rng]; omega) | (simp only [decide_eq_true_eq, decide_eq_false_iff_not, Bool.or_eq_true, Bool.and_eq_true, Bool.or_eq_false_iff, Int.toNat_natCast, addN_eq, cond_false, cond_true, rng] at *; omega) | exact ⟨rfl, rfl⟩))) | ((with_reducible refine Need.mk ?_ ?_); exact CEq.refl _) | ((with_reducible fail_if_success first | constructor | show False); conv => whnf)
    · rename_i h3 h4 h5 h6
      have h3 : (i : Int) < l.list.length := of_decide_eq_true h3
      have hm0 : mst l i = 7 := if_neg (by have h4 := h4; simp at h4; first | exact h4 | exact fun x => absurd x.2 (by rw [h4 x.1]; decide))
      rw [Int.toNat_natCast] at *
      refine Out.mk (hQ _ _ ?_)
      rw [decide_eq_false (fun x => by
        obtain ⟨-, -, a, -⟩ := x.2.2 i (by omega)
        simp only [decide_eq_true_eq] at h6; omega)]
      repeat' first | (with_reducible first | refine nI1 ?_ | refine nI2 ?_ | refine nI3 ?_ | exact ⟨⟩ | refine Both.mk (fun _ => ?_) fun _ => ?_ | refine Both2.mk (fun _ => ?_) ?_ | (refine Need.mk ?_ ?_; (first | omega | exact CEq.refl _ | (dsimp only [rng]; omega) | (simp only [decide_eq_true_eq, decide_eq_false_iff_not, Bool.or_eq_true, Bool.and_eq_true, Bool.or_eq_false_iff, Int.toNat_natCast, addN_eq, cond_false, cond_true, rng] at *; omega) | exact ⟨rfl, rfl⟩))) | ((with_reducible refine Need.mk ?_ ?_); exact CEq.refl _) | ((with_reducible fail_if_success first | constructor | show False); conv => whnf)
    · rename_i h3 h4 h5 h6
      have h3 : (i : Int) < l.list.length := of_decide_eq_true h3
      have hm0 : mst l i = 7 := if_neg (by have h4 := h4; simp at h4; first | exact h4 | exact fun x => absurd x.2 (by rw [h4 x.1]; decide))
      rw [Int.toNat_natCast] at *
      simp only [Bool.or_eq_false_iff, decide_eq_false_iff_not] at h5 h6
      have hcl := T.c _ (getD_mem (show i < l.list.length by omega))
      refine LoopVC.inv (fun k : Nat => k ≤ (l.list.getD i default).costs.length ∧ ∀ j, j < k → 1 ≤ (l.list.getD i default).costs.getD j default ∧ (l.list.getD i default).costs.getD j default ≤ 8) (fun k => stL [(1, .va 1 0 0), (32, .c (slL 3 lnE l.list)), (33, .c (.int .i64 l.list.length)), (34, .c (.int .i64 i)), (71, .c (slL 1 intE (l.list.getD i default).costs)), (72, .c (.int .i64 (l.list.getD i default).costs.length)), (73, .c (.int .i64 k))]
        [(1, vE [.c (slL 3 lnE l.list), .c (.int .i64 l.at_), .c (.bool l.given)])]) (fun k => (l.list.getD i default).costs.length - k) 0 ⟨Nat.zero_le _, fun j hj => by omega⟩ ?_ ?_
      · (refine Le.of ?_ ?_ <;> repeat' first | exact trivial | exact CEq.refl _ | exact rfl | exact cI (by push_cast; first | rfl | omega) | exact SubE.dat fun _ _ _ _ => CEq.refl _ | refine SubE.var2 ?_ ?_ | refine SubE.var1 ?_ | refine SubE.var3 ?_ ?_ ?_ | refine SubE.var4 ?_ ?_ ?_ ?_ | refine SubE.var5 ?_ ?_ ?_ ?_ ?_ | refine SubE.varN ?_ | refine Exists.intro _ (And.intro rfl ?_) | refine And.intro ?_ ?_)
      rintro Q2 hQ2 k ⟨hk, hkc⟩
      repeat' first | (with_reducible first | refine nI1 ?_ | refine nI2 ?_ | refine nI3 ?_ | exact ⟨⟩ | refine Both.mk (fun _ => ?_) fun _ => ?_ | refine Both2.mk (fun _ => ?_) ?_ | (refine Need.mk ?_ ?_; (first | omega | exact CEq.refl _ | (dsimp only [rng]; omega) | (simp only [decide_eq_true_eq, decide_eq_false_iff_not, Bool.or_eq_true, Bool.and_eq_true, Bool.or_eq_false_iff, Int.toNat_natCast, addN_eq, cond_false, cond_true, rng] at *; omega) | exact ⟨rfl, rfl⟩))) | ((with_reducible refine Need.mk ?_ ?_); exact CEq.refl _) | ((with_reducible fail_if_success first | constructor | show False); conv => whnf)
      · rename_i h7 h8
        have h7 : (k : Int) < (l.list.getD i default).costs.length := of_decide_eq_true h7
        refine Out.mk (hQ2 _ _ ?_)
        refine Out.mk (hQ _ _ ?_)
        rw [decide_eq_false (fun x => by
          obtain ⟨-, -, -, a⟩ := x.2.2 i (by omega)
          have := a _ (getD_mem (show k < (l.list.getD i default).costs.length by omega))
          rw [Int.toNat_natCast] at h8
          simp only [Bool.or_eq_true, decide_eq_true_eq] at h8; omega)]
        repeat' first | (with_reducible first | refine nI1 ?_ | refine nI2 ?_ | refine nI3 ?_ | exact ⟨⟩ | refine Both.mk (fun _ => ?_) fun _ => ?_ | refine Both2.mk (fun _ => ?_) ?_ | (refine Need.mk ?_ ?_; (first | omega | exact CEq.refl _ | (dsimp only [rng]; omega) | (simp only [decide_eq_true_eq, decide_eq_false_iff_not, Bool.or_eq_true, Bool.and_eq_true, Bool.or_eq_false_iff, Int.toNat_natCast, addN_eq, cond_false, cond_true, rng] at *; omega) | exact ⟨rfl, rfl⟩))) | ((with_reducible refine Need.mk ?_ ?_); exact CEq.refl _) | ((with_reducible fail_if_success first | constructor | show False); conv => whnf)
      · rename_i h7 h8
        have h7 : (k : Int) < (l.list.getD i default).costs.length := of_decide_eq_true h7
        rw [Int.toNat_natCast] at h8
        simp only [Bool.or_eq_false_iff, decide_eq_false_iff_not] at h8
        refine LoopEnd.mk ⟨k + 1, ⟨by omega, fun j hj => ?_⟩, by omega, by (refine Le.of ?_ ?_ <;> repeat' first | exact trivial | exact CEq.refl _ | exact rfl | exact cI (by push_cast; first | rfl | omega) | exact SubE.dat fun _ _ _ _ => CEq.refl _ | refine SubE.var2 ?_ ?_ | refine SubE.var1 ?_ | refine SubE.var3 ?_ ?_ ?_ | refine SubE.var4 ?_ ?_ ?_ ?_ | refine SubE.var5 ?_ ?_ ?_ ?_ ?_ | refine SubE.varN ?_ | refine Exists.intro _ (And.intro rfl ?_) | refine And.intro ?_ ?_)⟩
        rcases Nat.lt_or_ge j k with h9 | h9
        · exact hkc j h9
        · obtain rfl : j = k := by omega
          omega
      · rename_i h7
        have h7 : ¬ (k : Int) < (l.list.getD i default).costs.length := of_decide_eq_false h7
        refine Out.mk (hQ2 _ _ ?_)
        repeat' first | (with_reducible first | refine nI1 ?_ | refine nI2 ?_ | refine nI3 ?_ | exact ⟨⟩ | refine Both.mk (fun _ => ?_) fun _ => ?_ | refine Both2.mk (fun _ => ?_) ?_ | (refine Need.mk ?_ ?_; (first | omega | exact CEq.refl _ | (dsimp only [rng]; omega) | (simp only [decide_eq_true_eq, decide_eq_false_iff_not, Bool.or_eq_true, Bool.and_eq_true, Bool.or_eq_false_iff, Int.toNat_natCast, addN_eq, cond_false, cond_true, rng] at *; omega) | exact ⟨rfl, rfl⟩))) | ((with_reducible refine Need.mk ?_ ?_); exact CEq.refl _) | ((with_reducible fail_if_success first | constructor | show False); conv => whnf)
        refine LoopEnd.mk ⟨i + 1, ⟨by omega, fun j hj => ?_⟩, by omega, by (refine Le.of ?_ ?_ <;> repeat' first | exact trivial | exact CEq.refl _ | exact rfl | exact cI (by push_cast; first | rfl | omega) | exact SubE.dat fun _ _ _ _ => CEq.refl _ | refine SubE.var2 ?_ ?_ | refine SubE.var1 ?_ | refine SubE.var3 ?_ ?_ ?_ | refine SubE.var4 ?_ ?_ ?_ ?_ | refine SubE.var5 ?_ ?_ ?_ ?_ ?_ | refine SubE.varN ?_ | refine Exists.intro _ (And.intro rfl ?_) | refine And.intro ?_ ?_)⟩
        rcases Nat.lt_or_ge j i with h9 | h9
        · exact hok j h9
        · obtain rfl : j = i := by omega
          rw [hm0]
          exact ⟨by omega, by omega, by omega, all_of_getD fun j hj => hkc j (by omega)⟩
    · rename_i h3
      have h3 : ¬ (i : Int) < l.list.length := of_decide_eq_false h3
      refine Out.mk (hQ _ _ ?_)
      rw [decide_eq_true ⟨⟨by omega, by omega⟩, ⟨by omega, by omega⟩, fun k hk => hok k (by omega)⟩]
      repeat' first | (with_reducible first | refine nI1 ?_ | refine nI2 ?_ | refine nI3 ?_ | exact ⟨⟩ | refine Both.mk (fun _ => ?_) fun _ => ?_ | refine Both2.mk (fun _ => ?_) ?_ | (refine Need.mk ?_ ?_; (first | omega | exact CEq.refl _ | (dsimp only [rng]; omega) | (simp only [decide_eq_true_eq, decide_eq_false_iff_not, Bool.or_eq_true, Bool.and_eq_true, Bool.or_eq_false_iff, Int.toNat_natCast, addN_eq, cond_false, cond_true, rng] at *; omega) | exact ⟨rfl, rfl⟩))) | ((with_reducible refine Need.mk ?_ ?_); exact CEq.refl _) | ((with_reducible fail_if_success first | constructor | show False); conv => whnf)
end
end Lk.S05
namespace Lk.S05
open Go Lk Lk.C
theorem ceq_nil {a b : Nat} {f g : Nat → Nat → Cell} : CEq (.sl a 0 f) (.sl b 0 g) := ⟨_, _, rfl, fun h => absurd h (Nat.lt_irrefl 0)⟩
theorem IsL.cost {l : List Ln} {f : Nat → Nat → Cell} {k : Nat} {x : Cell} {cs : List Int} (h : IsL 3 lnE l f) (hx : CEq x (slL 1 intE cs)) : IsL 3 lnE (l.set k ⟨(l.getD k default).weight, (l.getD k default).deficit, cs⟩) (updC f k 2 x) := fun i hi j hj => by
  rw [List.length_set] at hi
  rw [updC_at, setL_getD hi]
  by_cases e : i = k
  · subst e
    rw [if_pos rfl]
    rcases (show j = 0 ∨ j = 1 ∨ j = 2 by omega) with rfl | rfl | rfl
    · rw [if_neg (show ¬ (i = i ∧ 0 = 2) from fun x => absurd x.2 (by decide))]; exact h i hi 0 (by decide)
    · rw [if_neg (show ¬ (i = i ∧ 1 = 2) from fun x => absurd x.2 (by decide))]; exact h i hi 1 (by decide)
    · rw [if_pos (show i = i ∧ 2 = 2 from ⟨rfl, rfl⟩)]; exact hx
  · rw [if_neg (show ¬ (i = k ∧ j = 2) from fun x => e x.1), if_neg e]; exact h i hi j hj
theorem IsL.def {l : List Ln} {f : Nat → Nat → Cell} {k : Nat} {d : Int} (h : IsL 3 lnE l f) : IsL 3 lnE (l.set k ⟨(l.getD k default).weight, d, (l.getD k default).costs⟩) (updC f k 1 (.int .i64 d)) := fun i hi j hj => by
  rw [List.length_set] at hi
  rw [updC_at, setL_getD hi]
  by_cases e : i = k
  · subst e
    rw [if_pos rfl]
    rcases (show j = 0 ∨ j = 1 ∨ j = 2 by omega) with rfl | rfl | rfl
    · rw [if_neg (show ¬ (i = i ∧ 0 = 1) from fun x => absurd x.2 (by decide))]; exact h i hi 0 (by decide)
    · rw [if_pos (show i = i ∧ 1 = 1 from ⟨rfl, rfl⟩)]; exact CEq.refl _
    · rw [if_neg (show ¬ (i = i ∧ 2 = 1) from fun x => absurd x.2 (by decide))]; exact h i hi 2 (by decide)
  · rw [if_neg (show ¬ (i = k ∧ j = 1) from fun x => e x.1), if_neg e]; exact h i hi j hj
section
variable {P : Program} {F : Nat → Nat}
set_option maxHeartbeats 8000000 in
set_option maxRecDepth 100000 in
theorem sl_IndexFunc_lanes_Lane_ok {P : Program} {F : Nat → Nat} (hm : P.follows .mixedOrders = true) (hk : sl_IndexFunc_lanes_Lane_k P F) (n : Nat) (f : Nat → Nat → Cell) (hn : n ≤ 1000000) (g : Nat) (p : Nat → Bool)
    (hg : ∀ i, i < n → FnOk P g [.many 3 (f i)] [.one (.im (.bool (p i)))]) : FnOk P (F 144) [.one (.sl 3 n f), .one (.fn g)] [.one (.im (.int .i64 (if fstN p n < n then (fstN p n : Int) else -1)))] := by
  refine fnOk hm hk ?_
  repeat' first | (with_reducible first | refine nI1 ?_ | refine nI2 ?_ | refine nI3 ?_ | exact ⟨⟩ | refine Both.mk (fun _ => ?_) fun _ => ?_ | refine Both2.mk (fun _ => ?_) ?_ | (refine Need.mk ?_ ?_; (exact Nat.le_of_eq (Nat.zero_add _)))) | ((with_reducible fail_if_success first | constructor | show False); conv => whnf)
  refine LoopVC.of (X := {i : Nat // i ≤ n ∧ ∀ j, j < i → p j = false}) (fun i => stL [(0, .c (.sl 3 n f)), (1, .c (.fn g)), (7, .c (.int .i64 n)), (8, .c (.int .i64 i.1))] [])
    (fun i => n - i.1) ⟨0, Nat.zero_le _, fun j hj => by omega⟩ (Le.of ⟨CEq.refl _, rfl, rfl, rfl, trivial⟩ trivial) ?_
  rintro Q hQ ⟨i, hi, hp⟩
  repeat' first | (with_reducible first | refine nI1 ?_ | refine nI2 ?_ | refine nI3 ?_ | exact ⟨⟩ | refine Both.mk (fun _ => ?_) fun _ => ?_ | refine Both2.mk (fun _ => ?_) ?_ | (refine Need.mk ?_ ?_; (exact Nat.le_of_eq (Nat.zero_add _)))) | ((with_reducible fail_if_success first | constructor | show False); conv => whnf)
  · rename_i h
    simp only [decide_eq_true_eq] at h
    refine Need.mk (by (simp only [decide_eq_true_eq, decide_eq_false_iff_not, Bool.or_eq_true, Bool.and_eq_true, Bool.or_eq_false_iff, Int.toNat_natCast, addN_eq, cond_false, cond_true, rng] at *; omega)) ?_
    repeat' first | (with_reducible first | refine nI1 ?_ | refine nI2 ?_ | refine nI3 ?_ | exact ⟨⟩ | refine Both.mk (fun _ => ?_) fun _ => ?_ | refine Both2.mk (fun _ => ?_) ?_ | (refine Need.mk ?_ ?_; (exact Nat.le_of_eq (Nat.zero_add _)))) | ((with_reducible fail_if_success first | constructor | show False); conv => whnf)
    refine CallVC.mk' (fun _ => hg i (by omega)) (fun _ => .cons ((.many fun j hj => by (rcases (show j = 0 ∨ j = 1 ∨ j = 2 by omega) with rfl | rfl | rfl <;> exact CEq.refl _))) .nil) ?_
    repeat' first | (with_reducible first | refine nI1 ?_ | refine nI2 ?_ | refine nI3 ?_ | exact ⟨⟩ | refine Both.mk (fun _ => ?_) fun _ => ?_ | refine Both2.mk (fun _ => ?_) ?_ | (refine Need.mk ?_ ?_; (exact Nat.le_of_eq (Nat.zero_add _)))) | ((with_reducible fail_if_success first | constructor | show False); conv => whnf)
    · rename_i h2
      refine Out.mk (hQ _ _ ?_)
      repeat' first | (with_reducible first | refine nI1 ?_ | refine nI2 ?_ | refine nI3 ?_ | exact ⟨⟩ | refine Both.mk (fun _ => ?_) fun _ => ?_ | refine Both2.mk (fun _ => ?_) ?_ | (refine Need.mk ?_ ?_; (exact Nat.le_of_eq (Nat.zero_add _)))) | ((with_reducible fail_if_success first | constructor | show False); conv => whnf)
      have he : fstN p n = i := fstN_eq hi hp (fun _ => h2)
      refine Need.mk (eI (by rw [he, if_pos (by omega)])) ?_
      repeat' first | (with_reducible first | refine nI1 ?_ | refine nI2 ?_ | refine nI3 ?_ | exact ⟨⟩ | refine Both.mk (fun _ => ?_) fun _ => ?_ | refine Both2.mk (fun _ => ?_) ?_ | (refine Need.mk ?_ ?_; (exact Nat.le_of_eq (Nat.zero_add _)))) | ((with_reducible fail_if_success first | constructor | show False); conv => whnf)
    · rename_i h2
      refine Need.mk (by (simp only [decide_eq_true_eq, decide_eq_false_iff_not, Bool.or_eq_true, Bool.and_eq_true, Bool.or_eq_false_iff, Int.toNat_natCast, addN_eq, cond_false, cond_true, rng] at *; omega)) ?_
      repeat' first | (with_reducible first | refine nI1 ?_ | refine nI2 ?_ | refine nI3 ?_ | exact ⟨⟩ | refine Both.mk (fun _ => ?_) fun _ => ?_ | refine Both2.mk (fun _ => ?_) ?_ | (refine Need.mk ?_ ?_; (exact Nat.le_of_eq (Nat.zero_add _)))) | ((with_reducible fail_if_success first | constructor | show False); conv => whnf)
      refine LoopEnd.mk ⟨⟨i + 1, by omega, fun j hj => ?_⟩, by show n - (i + 1) < n - i; omega, Le.of ⟨CEq.refl _, rfl, rfl, cI (by simp), trivial⟩ trivial⟩
      rcases Nat.lt_or_ge j i with h | h
      · exact hp j h
      · obtain rfl : j = i := by omega
        exact h2
  · rename_i h
    simp only [decide_eq_false_iff_not] at h
    refine Out.mk (hQ _ _ ?_)
    repeat' first | (with_reducible first | refine nI1 ?_ | refine nI2 ?_ | refine nI3 ?_ | exact ⟨⟩ | refine Both.mk (fun _ => ?_) fun _ => ?_ | refine Both2.mk (fun _ => ?_) ?_ | (refine Need.mk ?_ ?_; (exact Nat.le_of_eq (Nat.zero_add _)))) | ((with_reducible fail_if_success first | constructor | show False); conv => whnf)
    have he : fstN p n = n := fstN_eq (Nat.le_refl _) (fun j hj => hp j (by omega)) (fun h => by omega)
    refine Need.mk (eI (by rw [he, if_neg (by omega)])) ?_
    repeat' first | (with_reducible first | refine nI1 ?_ | refine nI2 ?_ | refine nI3 ?_ | exact ⟨⟩ | refine Both.mk (fun _ => ?_) fun _ => ?_ | refine Both2.mk (fun _ => ?_) ?_ | (refine Need.mk ?_ ?_; (exact Nat.le_of_eq (Nat.zero_add _)))) | ((with_reducible fail_if_success first | constructor | show False); conv => whnf)
set_option maxHeartbeats 8000000 in
set_option maxRecDepth 100000 in
theorem sl_ContainsFunc_lanes_Lane_ok {P : Program} {F : Nat → Nat} (hm : P.follows .mixedOrders = true) (hk : sl_IndexFunc_lanes_Lane_k P F) (hk' : sl_ContainsFunc_lanes_Lane_k P F) (n : Nat) (f : Nat → Nat → Cell) (hn : n ≤ 1000000) (g : Nat) (p : Nat → Bool)
    (hg : ∀ i, i < n → FnOk P g [.many 3 (f i)] [.one (.im (.bool (p i)))]) : FnOk P (F 94) [.one (.sl 3 n f), .one (.fn g)] [.one (.im (.bool (decide (fstN p n < n))))] := by
  refine fnOk hm hk' ?_
  repeat' first | (with_reducible first | refine nI1 ?_ | refine nI2 ?_ | refine nI3 ?_ | exact ⟨⟩ | refine Both.mk (fun _ => ?_) fun _ => ?_ | refine Both2.mk (fun _ => ?_) ?_ | (refine Need.mk ?_ ?_; (exact Nat.le_of_eq (Nat.zero_add _)))) | ((with_reducible fail_if_success first | constructor | show False); conv => whnf)
  refine CallVC.mk' (fun _ => sl_IndexFunc_lanes_Lane_ok hm hk n f hn g p hg) (fun _ => .cons (.one (CEq.refl _)) (.cons (.one (CEq.refl _)) .nil)) ?_
  repeat' first | (with_reducible first | refine nI1 ?_ | refine nI2 ?_ | refine nI3 ?_ | exact ⟨⟩ | refine Both.mk (fun _ => ?_) fun _ => ?_ | refine Both2.mk (fun _ => ?_) ?_ | (refine Need.mk ?_ ?_; (exact Nat.le_of_eq (Nat.zero_add _)))) | ((with_reducible fail_if_success first | constructor | show False); conv => whnf)
  refine Need.mk (eB ?_) ?_
  · by_cases h : fstN p n < n
    · simp [h]
    · simp [h]
  · repeat' first | (with_reducible first | refine nI1 ?_ | refine nI2 ?_ | refine nI3 ?_ | exact ⟨⟩ | refine Both.mk (fun _ => ?_) fun _ => ?_ | refine Both2.mk (fun _ => ?_) ?_ | (refine Need.mk ?_ ?_; (exact Nat.le_of_eq (Nat.zero_add _)))) | ((with_reducible fail_if_success first | constructor | show False); conv => whnf)
set_option maxHeartbeats 8000000 in
set_option maxRecDepth 100000 in
theorem sl_Clone_lanes_Lane_ok {P : Program} {F : Nat → Nat} (hm : P.follows .mixedOrders = true) (hk : sl_Clone_lanes_Lane_k P F) (n : Nat) (f : Nat → Nat → Cell) (hn : n ≤ 1000000) : FnOk P (F 77) [.one (.sl 3 n f)] [.one (.ow 3 n f)] := by
  refine fnOk hm hk ?_
  repeat' first | (with_reducible first | refine nI1 ?_ | refine nI2 ?_ | refine nI3 ?_ | exact ⟨⟩ | refine Both.mk (fun _ => ?_) fun _ => ?_ | refine Both2.mk (fun _ => ?_) ?_ | (refine Need.mk ?_ ?_; (first | assumption | omega | exact CEq.refl _ | exact ⟨rfl, rfl⟩ | exact Nat.zero_add _ | exact (Nat.zero_add _).symm | exact ⟨rfl, Nat.le_refl _, (Nat.zero_add _).symm⟩ | exact appC_zero))) | ((with_reducible fail_if_success first | constructor | show False); conv => whnf)
set_option maxHeartbeats 8000000 in
set_option maxRecDepth 100000 in
theorem sl_Clone_int_ok {P : Program} {F : Nat → Nat} (hm : P.follows .mixedOrders = true) (hk : sl_Clone_int_k P F) (n : Nat) (f : Nat → Nat → Cell) (hn : n ≤ 1000000) : FnOk P (F 78) [.one (.sl 1 n f)] [.one (.ow 1 n f)] := by
  refine fnOk hm hk ?_
  repeat' first | (with_reducible first | refine nI1 ?_ | refine nI2 ?_ | refine nI3 ?_ | exact ⟨⟩ | refine Both.mk (fun _ => ?_) fun _ => ?_ | refine Both2.mk (fun _ => ?_) ?_ | (refine Need.mk ?_ ?_; (first | assumption | omega | exact CEq.refl _ | exact ⟨rfl, rfl⟩ | exact Nat.zero_add _ | exact (Nat.zero_add _).symm | exact ⟨rfl, Nat.le_refl _, (Nat.zero_add _).symm⟩ | exact appC_zero))) | ((with_reducible fail_if_success first | constructor | show False); conv => whnf)
def wtB (l : Ls) (i : Nat) : Bool := decide (0 < (l.list.getD i default).costs.length)
/-- Does something wait? -/
def waits (l : Ls) : Prop := ∃ x ∈ l.list, x.costs ≠ []
instance (l : Ls) : Decidable (waits l) := by unfold waits; infer_instance
theorem waits_fst (l : Ls) : fstN (wtB l) l.list.length < l.list.length ↔ waits l := by
  rw [fstN_lt_iff]
  unfold wtB waits
  constructor
  · rintro ⟨i, hi, h⟩
    exact ⟨_, getD_mem hi, fun e => by rw [e] at h; simp at h⟩
  · rintro ⟨x, hx, h⟩
    obtain ⟨i, hi, rfl⟩ := List.mem_iff_getElem.1 hx
    refine ⟨i, hi, decide_eq_true ?_⟩
    rw [getD_eq hi]
    cases hc : l.list[i].costs with
    | nil => exact absurd hc h
    | cons => simp
structure KLn (P : Program) (F : Nat → Nat) : Prop where
  m : P.follows .mixedOrders = true
  new : lanes_New_k P F
  right : lanes_Right_k P F
  push : lanes_Push_k P F
  next : lanes_Next_k P F
  waits : lanes_waits_k P F
  waits1 : lanes_waits_1_k P F
  idx : sl_IndexFunc_lanes_Lane_k P F
  cont : sl_ContainsFunc_lanes_Lane_k P F
  cloneL : sl_Clone_lanes_Lane_k P F
  cloneI : sl_Clone_int_k P F
set_option maxHeartbeats 8000000 in
set_option maxRecDepth 100000 in
theorem waits1_ok (K : KLn P F) (x : Ln) (h : x.costs.length ≤ 1000000) : FnOk P (F 95) [.many 3 (lnE x)] [.one (.im (.bool (decide (0 < x.costs.length))))] := by
  refine fnOk K.m K.waits1 ?_
  repeat' first | (with_reducible first | refine nI1 ?_ | refine nI2 ?_ | refine nI3 ?_ | exact ⟨⟩ | refine Both.mk (fun _ => ?_) fun _ => ?_ | refine Both2.mk (fun _ => ?_) ?_ | (refine Need.mk ?_ ?_; (first | omega | exact CEq.refl _ | (dsimp only [rng]; omega) | (simp only [decide_eq_true_eq, decide_eq_false_iff_not, Bool.or_eq_true, Bool.and_eq_true, Bool.or_eq_false_iff, Int.toNat_natCast, addN_eq, cond_false, cond_true, rng] at *; omega) | exact ⟨rfl, rfl⟩))) | ((with_reducible refine Need.mk ?_ ?_); exact CEq.refl _) | ((with_reducible fail_if_success first | constructor | show False); conv => whnf)
  refine Need.mk (eB (by simp)) ?_
  repeat' first | (with_reducible first | refine nI1 ?_ | refine nI2 ?_ | refine nI3 ?_ | exact ⟨⟩ | refine Both.mk (fun _ => ?_) fun _ => ?_ | refine Both2.mk (fun _ => ?_) ?_ | (refine Need.mk ?_ ?_; (first | omega | exact CEq.refl _ | (dsimp only [rng]; omega) | (simp only [decide_eq_true_eq, decide_eq_false_iff_not, Bool.or_eq_true, Bool.and_eq_true, Bool.or_eq_false_iff, Int.toNat_natCast, addN_eq, cond_false, cond_true, rng] at *; omega) | exact ⟨rfl, rfl⟩))) | ((with_reducible refine Need.mk ?_ ?_); exact CEq.refl _) | ((with_reducible fail_if_success first | constructor | show False); conv => whnf)
set_option maxHeartbeats 8000000 in
set_option maxRecDepth 100000 in
theorem waits_ok (K : KLn P F) (l : Ls) (T : Tiny l) : FnOk P (F 93) [.many 3 (lsE l)] [.one (.im (.bool (decide (waits l))))] := by
  refine fnOk K.m K.waits ?_
  repeat' first | (with_reducible first | refine nI1 ?_ | refine nI2 ?_ | refine nI3 ?_ | exact ⟨⟩ | refine Both.mk (fun _ => ?_) fun _ => ?_ | refine Both2.mk (fun _ => ?_) ?_ | (refine Need.mk ?_ ?_; (first | omega | exact CEq.refl _ | (dsimp only [rng]; omega) | (simp only [decide_eq_true_eq, decide_eq_false_iff_not, Bool.or_eq_true, Bool.and_eq_true, Bool.or_eq_false_iff, Int.toNat_natCast, addN_eq, cond_false, cond_true, rng] at *; omega) | exact ⟨rfl, rfl⟩))) | ((with_reducible refine Need.mk ?_ ?_); exact CEq.refl _) | ((with_reducible fail_if_success first | constructor | show False); conv => whnf)
  refine CallVC.mk' (fun _ => sl_ContainsFunc_lanes_Lane_ok K.m K.idx K.cont l.list.length (fun i j => lnE (l.list.getD i default) j) (by have := T.n; omega) (F 95) (wtB l) (fun i hi => waits1_ok K _ (T.c _ (getD_mem hi)))) (fun _ => .cons (.one (CEq.refl _)) (.cons (.one (CEq.refl _)) .nil)) ?_
  repeat' first | (with_reducible first | refine nI1 ?_ | refine nI2 ?_ | refine nI3 ?_ | exact ⟨⟩ | refine Both.mk (fun _ => ?_) fun _ => ?_ | refine Both2.mk (fun _ => ?_) ?_ | (refine Need.mk ?_ ?_; (first | omega | exact CEq.refl _ | (dsimp only [rng]; omega) | (simp only [decide_eq_true_eq, decide_eq_false_iff_not, Bool.or_eq_true, Bool.and_eq_true, Bool.or_eq_false_iff, Int.toNat_natCast, addN_eq, cond_false, cond_true, rng] at *; omega) | exact ⟨rfl, rfl⟩))) | ((with_reducible refine Need.mk ?_ ?_); exact CEq.refl _) | ((with_reducible fail_if_success first | constructor | show False); conv => whnf)
  refine Need.mk (eB (by rw [Bool.eq_iff_iff, decide_eq_true_eq, decide_eq_true_eq]; exact waits_fst l)) ?_
  repeat' first | (with_reducible first | refine nI1 ?_ | refine nI2 ?_ | refine nI3 ?_ | exact ⟨⟩ | refine Both.mk (fun _ => ?_) fun _ => ?_ | refine Both2.mk (fun _ => ?_) ?_ | (refine Need.mk ?_ ?_; (first | omega | exact CEq.refl _ | (dsimp only [rng]; omega) | (simp only [decide_eq_true_eq, decide_eq_false_iff_not, Bool.or_eq_true, Bool.and_eq_true, Bool.or_eq_false_iff, Int.toNat_natCast, addN_eq, cond_false, cond_true, rng] at *; omega) | exact ⟨rfl, rfl⟩))) | ((with_reducible refine Need.mk ?_ ?_); exact CEq.refl _) | ((with_reducible fail_if_success first | constructor | show False); conv => whnf)
def newOk (w : List Int) : Prop := (1 ≤ w.length ∧ w.length ≤ 6) ∧ ∀ x ∈ w, 1 ≤ x ∧ x ≤ 8
instance (w : List Int) : Decidable (newOk w) := by unfold newOk; infer_instance
def newLn (x : Int) : Ln := ⟨x, 0, []⟩
def newL (w : List Int) : Ls := if newOk w then ⟨w.map newLn, 0, false⟩ else ⟨[], 0, false⟩
def newE (w : List Int) : Int := if newOk w then 0 else 1
set_option maxHeartbeats 8000000 in
set_option maxRecDepth 100000 in
theorem new_ok (K : KLn P F) (w : List Int) (hw : w.length ≤ 1000000) : FnOk P (F 75) [.one (slL 1 intE w)] [.many 3 (fun j => .im (lsE (newL w) j)), .one (.im (.int .i64 (newE w)))] := by
  refine fnOk K.m K.new ?_
  repeat' first | (with_reducible first | refine nI1 ?_ | refine nI2 ?_ | refine nI3 ?_ | exact ⟨⟩ | refine Both.mk (fun _ => ?_) fun _ => ?_ | refine Both2.mk (fun _ => ?_) ?_ | (refine Need.mk ?_ ?_; (first | omega | exact CEq.refl _ | (dsimp only [rng]; omega) | (simp only [decide_eq_true_eq, decide_eq_false_iff_not, Bool.or_eq_true, Bool.and_eq_true, Bool.or_eq_false_iff, Int.toNat_natCast, addN_eq, cond_false, cond_true, rng] at *; omega) | exact ⟨rfl, rfl⟩))) | ((with_reducible refine Need.mk ?_ ?_); exact CEq.refl _) | ((with_reducible fail_if_success first | constructor | show False); conv => whnf)
  · rename_i h
    have hn : ¬ newOk w := fun x => by simp only [Bool.or_eq_true, decide_eq_true_eq] at h; have := x.1; omega
    rw [show newL w = ⟨[], 0, false⟩ from if_neg hn, show newE w = 1 from if_neg hn]
    repeat' first | (with_reducible first | refine nI1 ?_ | refine nI2 ?_ | refine nI3 ?_ | exact ⟨⟩ | refine Both.mk (fun _ => ?_) fun _ => ?_ | refine Both2.mk (fun _ => ?_) ?_ | (refine Need.mk ?_ ?_; (first | omega | exact CEq.refl _ | (dsimp only [rng]; omega) | (simp only [decide_eq_true_eq, decide_eq_false_iff_not, Bool.or_eq_true, Bool.and_eq_true, Bool.or_eq_false_iff, Int.toNat_natCast, addN_eq, cond_false, cond_true, rng] at *; omega) | exact ⟨rfl, rfl⟩))) | ((with_reducible refine Need.mk ?_ ?_); exact CEq.refl _) | ((with_reducible fail_if_success first | constructor | show False); conv => whnf)
    refine Need.mk ceq_nil ?_
    repeat' first | (with_reducible first | refine nI1 ?_ | refine nI2 ?_ | refine nI3 ?_ | exact ⟨⟩ | refine Both.mk (fun _ => ?_) fun _ => ?_ | refine Both2.mk (fun _ => ?_) ?_ | (refine Need.mk ?_ ?_; (first | omega | exact CEq.refl _ | (dsimp only [rng]; omega) | (simp only [decide_eq_true_eq, decide_eq_false_iff_not, Bool.or_eq_true, Bool.and_eq_true, Bool.or_eq_false_iff, Int.toNat_natCast, addN_eq, cond_false, cond_true, rng] at *; omega) | exact ⟨rfl, rfl⟩))) | ((with_reducible refine Need.mk ?_ ?_); exact CEq.refl _) | ((with_reducible fail_if_success first | constructor | show False); conv => whnf)
  · rename_i h
    simp only [Bool.or_eq_false_iff, decide_eq_false_iff_not] at h
    refine LoopVC.inv (fun i : Nat => i ≤ w.length ∧ ∀ k, k < i → 1 ≤ w.getD k default ∧ w.getD k default ≤ 8) (fun i => stL [(2, .va 2 0 0), (4, .os 18 0 3 0 w.length), (19, .c (slL 1 intE w)), (20, .c (.int .i64 w.length)), (21, .c (.int .i64 i))]
      [(2, vE [.nil 3, .c (.int .i64 0), .c (.bool false)]), (18, ⟨3, w.length, .dat fun r j => lnE (if r < i then newLn (w.getD r default) else default) j, false, true⟩)]) (fun i => w.length - i) 0 ⟨Nat.zero_le _, fun k hk => by omega⟩ ?_ ?_
    · (refine Le.of ?_ ?_ <;> repeat' first | exact trivial | exact CEq.refl _ | exact rfl | exact cI (by push_cast; first | rfl | omega) | exact SubE.dat fun _ _ _ _ => CEq.refl _ | refine SubE.var2 ?_ ?_ | refine SubE.var1 ?_ | refine SubE.var3 ?_ ?_ ?_ | refine SubE.var4 ?_ ?_ ?_ ?_ | refine SubE.var5 ?_ ?_ ?_ ?_ ?_ | refine SubE.varN ?_ | refine Exists.intro _ (And.intro rfl ?_) | refine And.intro ?_ ?_)
      refine SubE.dat fun r hr j hj => ?_
      have hj : j < 3 := hj
      rw [if_neg (Nat.not_lt_zero r)]
      rcases (show j = 0 ∨ j = 1 ∨ j = 2 by omega) with rfl | rfl | rfl
      · exact CEq.refl _
      · exact CEq.refl _
      · exact ceq_nil
    rintro Q hQ i ⟨hi, hok⟩
    repeat' first | (with_reducible first | refine nI1 ?_ | refine nI2 ?_ | refine nI3 ?_ | exact ⟨⟩ | refine Both.mk (fun _ => ?_) fun _ => ?_ | refine Both2.mk (fun _ => ?_) ?_ | (refine Need.mk ?_ ?_; (first | omega | exact CEq.refl _ | (dsimp only [rng]; omega) | (simp only [decide_eq_true_eq, decide_eq_false_iff_not, Bool.or_eq_true, Bool.and_eq_true, Bool.or_eq_false_iff, Int.toNat_natCast, addN_eq, cond_false, cond_true, rng] at *; omega) | exact ⟨rfl, rfl⟩))) | ((with_reducible refine Need.mk ?_ ?_); exact CEq.refl _) | ((with_reducible fail_if_success first | constructor | show False); conv => whnf)
    · rename_i h3 h4
      have h3 : (i : Int) < w.length := of_decide_eq_true h3
      rw [Int.toNat_natCast] at h4
      have hn : ¬ newOk w := fun x => by
        have := x.2 _ (getD_mem (show i < w.length by omega))
        simp only [Bool.or_eq_true, decide_eq_true_eq] at h4; omega
      refine Out.mk (hQ _ _ ?_)
      rw [show newL w = ⟨[], 0, false⟩ from if_neg hn, show newE w = 1 from if_neg hn]
      repeat' first | (with_reducible first | refine nI1 ?_ | refine nI2 ?_ | refine nI3 ?_ | exact ⟨⟩ | refine Both.mk (fun _ => ?_) fun _ => ?_ | refine Both2.mk (fun _ => ?_) ?_ | (refine Need.mk ?_ ?_; (first | omega | exact CEq.refl _ | (dsimp only [rng]; omega) | (simp only [decide_eq_true_eq, decide_eq_false_iff_not, Bool.or_eq_true, Bool.and_eq_true, Bool.or_eq_false_iff, Int.toNat_natCast, addN_eq, cond_false, cond_true, rng] at *; omega) | exact ⟨rfl, rfl⟩))) | ((with_reducible refine Need.mk ?_ ?_); exact CEq.refl _) | ((with_reducible fail_if_success first | constructor | show False); conv => whnf)
      refine Need.mk ceq_nil ?_
      repeat' first | (with_reducible first | refine nI1 ?_ | refine nI2 ?_ | refine nI3 ?_ | exact ⟨⟩ | refine Both.mk (fun _ => ?_) fun _ => ?_ | refine Both2.mk (fun _ => ?_) ?_ | (refine Need.mk ?_ ?_; (first | omega | exact CEq.refl _ | (dsimp only [rng]; omega) | (simp only [decide_eq_true_eq, decide_eq_false_iff_not, Bool.or_eq_true, Bool.and_eq_true, Bool.or_eq_false_iff, Int.toNat_natCast, addN_eq, cond_false, cond_true, rng] at *; omega) | exact ⟨rfl, rfl⟩))) | ((with_reducible refine Need.mk ?_ ?_); exact CEq.refl _) | ((with_reducible fail_if_success first | constructor | show False); conv => whnf)
    · rename_i h3 h4
      have h3 : (i : Int) < w.length := of_decide_eq_true h3
      rw [Int.toNat_natCast] at h4
      simp only [Bool.or_eq_false_iff, decide_eq_false_iff_not] at h4
      refine LoopEnd.mk ⟨i + 1, ⟨by omega, fun k hk => ?_⟩, by omega, ?_⟩
      · rcases Nat.lt_or_ge k i with h9 | h9
        · exact hok k h9
        · obtain rfl : k = i := by omega
          omega
      (refine Le.of ?_ ?_ <;> repeat' first | exact trivial | exact CEq.refl _ | exact rfl | exact cI (by push_cast; first | rfl | omega) | exact SubE.dat fun _ _ _ _ => CEq.refl _ | refine SubE.var2 ?_ ?_ | refine SubE.var1 ?_ | refine SubE.var3 ?_ ?_ ?_ | refine SubE.var4 ?_ ?_ ?_ ?_ | refine SubE.var5 ?_ ?_ ?_ ?_ ?_ | refine SubE.varN ?_ | refine Exists.intro _ (And.intro rfl ?_) | refine And.intro ?_ ?_)
      refine SubE.dat fun r hr j hj => ?_
      have hj : j < 3 := hj
      rw [updC_at, addN_eq, Int.toNat_natCast, Nat.zero_add]
      by_cases e : r = i
      · subst e
        rw [if_pos (show r < r + 1 by omega)]
        rcases (show j = 0 ∨ j = 1 ∨ j = 2 by omega) with rfl | rfl | rfl
        · rw [if_pos (show r = r ∧ 0 = 0 from ⟨rfl, rfl⟩)]; exact CEq.refl _
        · rw [if_neg (show ¬ (r = r ∧ 1 = 0) from fun x => absurd x.2 (by decide)), if_neg (show ¬ r < r by omega)]; exact CEq.refl _
        · rw [if_neg (show ¬ (r = r ∧ 2 = 0) from fun x => absurd x.2 (by decide)), if_neg (show ¬ r < r by omega)]; exact CEq.refl _
      · rw [if_neg (show ¬ (r = i ∧ j = 0) from fun x => e x.1)]
        by_cases e2 : r < i
        · rw [if_pos e2, if_pos (show r < i + 1 by omega)]; exact CEq.refl _
        · rw [if_neg e2, if_neg (show ¬ r < i + 1 by omega)]; exact CEq.refl _
    · rename_i h3
      have h3 : ¬ (i : Int) < w.length := of_decide_eq_false h3
      obtain rfl : i = w.length := by omega
      have hn : newOk w := ⟨by omega, all_of_getD hok⟩
      refine Out.mk (hQ _ _ ?_)
      rw [show newL w = ⟨w.map newLn, 0, false⟩ from if_pos hn, show newE w = 0 from if_pos hn]
      repeat' first | (with_reducible first | refine nI1 ?_ | refine nI2 ?_ | refine nI3 ?_ | exact ⟨⟩ | refine Both.mk (fun _ => ?_) fun _ => ?_ | refine Both2.mk (fun _ => ?_) ?_ | (refine Need.mk ?_ ?_; (first | omega | exact CEq.refl _ | (dsimp only [rng]; omega) | (simp only [decide_eq_true_eq, decide_eq_false_iff_not, Bool.or_eq_true, Bool.and_eq_true, Bool.or_eq_false_iff, Int.toNat_natCast, addN_eq, cond_false, cond_true, rng] at *; omega) | exact ⟨rfl, rfl⟩))) | ((with_reducible refine Need.mk ?_ ?_); exact CEq.refl _) | ((with_reducible fail_if_success first | constructor | show False); conv => whnf)
      refine Need.mk (CEq.list (by simp) fun k hk j hj => ?_) ?_
      · have hk : k < w.length := by simpa using hk
        show CEq (lnE (if addN 0 k < w.length then newLn (w.getD (addN 0 k) default) else default) j) _
        rw [addN_eq, Nat.zero_add, if_pos hk]
        have e : (w.map newLn).getD k default = newLn (w.getD k default) := by
          rw [getD_eq (by simpa using hk), getD_eq hk]; simp
        rw [e]; exact CEq.refl _
      repeat' first | (with_reducible first | refine nI1 ?_ | refine nI2 ?_ | refine nI3 ?_ | exact ⟨⟩ | refine Both.mk (fun _ => ?_) fun _ => ?_ | refine Both2.mk (fun _ => ?_) ?_ | (refine Need.mk ?_ ?_; (first | omega | exact CEq.refl _ | (dsimp only [rng]; omega) | (simp only [decide_eq_true_eq, decide_eq_false_iff_not, Bool.or_eq_true, Bool.and_eq_true, Bool.or_eq_false_iff, Int.toNat_natCast, addN_eq, cond_false, cond_true, rng] at *; omega) | exact ⟨rfl, rfl⟩))) | ((with_reducible refine Need.mk ?_ ?_); exact CEq.refl _) | ((with_reducible fail_if_success first | constructor | show False); conv => whnf)
def pushOk (l : Ls) (k c : Int) : Prop := right l ∧ (0 ≤ k ∧ k < l.list.length) ∧ 1 ≤ c ∧ c ≤ 8
instance (l : Ls) (k c : Int) : Decidable (pushOk l k c) := by unfold pushOk; infer_instance
def pushE (l : Ls) (k c : Int) : Int := if pushOk l k c then (if (l.list.getD k.toNat default).costs.length ≥ 200 then 7 else 0) else 1
def pushX (l : Ls) (k : Nat) (c : Int) : Ls := ⟨l.list.set k ⟨(l.list.getD k default).weight, (l.list.getD k default).deficit, (l.list.getD k default).costs ++ [c]⟩, l.at_, l.given⟩
def pushL (l : Ls) (k c : Int) : Ls := if pushE l k c = 0 then pushX l k.toNat c else l
set_option maxHeartbeats 8000000 in
set_option maxRecDepth 100000 in
theorem push_ok (K : KLn P F) (l : Ls) (k c : Int) (T : Tiny l) : FnOk P (F 79) [.many 3 (lsE l), .one (.int .i64 k), .one (.int .i64 c)] [.many 3 (fun j => .im (lsE (pushL l k c) j)), .one (.im (.int .i64 (pushE l k c)))] := by
  refine fnOk K.m K.push ?_
  repeat' first | (with_reducible first | refine nI1 ?_ | refine nI2 ?_ | refine nI3 ?_ | exact ⟨⟩ | refine Both.mk (fun _ => ?_) fun _ => ?_ | refine Both2.mk (fun _ => ?_) ?_ | (refine Need.mk ?_ ?_; (first | omega | exact CEq.refl _ | (dsimp only [rng]; omega) | (simp only [decide_eq_true_eq, decide_eq_false_iff_not, Bool.or_eq_true, Bool.and_eq_true, Bool.or_eq_false_iff, Int.toNat_natCast, addN_eq, cond_false, cond_true, rng] at *; omega) | exact ⟨rfl, rfl⟩))) | ((with_reducible refine Need.mk ?_ ?_); exact CEq.refl _) | ((with_reducible fail_if_success first | constructor | show False); conv => whnf)
  refine CallVC.mk' (fun _ => right_ok K.m K.right l T) (fun _ => .cons ((.many fun j hj => by (rcases (show j = 0 ∨ j = 1 ∨ j = 2 by omega) with rfl | rfl | rfl <;> exact CEq.refl _))) .nil) ?_
  have hn := T.n
  repeat' first | (with_reducible first | refine nI1 ?_ | refine nI2 ?_ | refine nI3 ?_ | exact ⟨⟩ | refine Both.mk (fun _ => ?_) fun _ => ?_ | refine Both2.mk (fun _ => ?_) ?_ | (refine Need.mk ?_ ?_; (first | omega | exact CEq.refl _ | (dsimp only [rng]; omega) | (simp only [decide_eq_true_eq, decide_eq_false_iff_not, Bool.or_eq_true, Bool.and_eq_true, Bool.or_eq_false_iff, Int.toNat_natCast, addN_eq, cond_false, cond_true, rng] at *; omega) | exact ⟨rfl, rfl⟩))) | ((with_reducible refine Need.mk ?_ ?_); exact CEq.refl _) | ((with_reducible fail_if_success first | constructor | show False); conv => whnf)
  · rename_i h
    have hp : ¬ pushOk l k c := fun x => by
      obtain ⟨a, b, d, e⟩ := x
      rw [decide_eq_true a] at h
      simp only [Bool.or_eq_true, decide_eq_true_eq, Bool.not_true, Bool.false_eq_true, false_or] at h; omega
    have he : pushE l k c = 1 := if_neg hp
    rw [show pushL l k c = l from if_neg (by rw [he]; decide), he]
    repeat' first | (with_reducible first | refine nI1 ?_ | refine nI2 ?_ | refine nI3 ?_ | exact ⟨⟩ | refine Both.mk (fun _ => ?_) fun _ => ?_ | refine Both2.mk (fun _ => ?_) ?_ | (refine Need.mk ?_ ?_; (first | omega | exact CEq.refl _ | (dsimp only [rng]; omega) | (simp only [decide_eq_true_eq, decide_eq_false_iff_not, Bool.or_eq_true, Bool.and_eq_true, Bool.or_eq_false_iff, Int.toNat_natCast, addN_eq, cond_false, cond_true, rng] at *; omega) | exact ⟨rfl, rfl⟩))) | ((with_reducible refine Need.mk ?_ ?_); exact CEq.refl _) | ((with_reducible fail_if_success first | constructor | show False); conv => whnf)
  all_goals
    rename_i h h2
    have hp : pushOk l k c := by
      simp only [Bool.or_eq_false_iff, decide_eq_false_iff_not, Bool.not_eq_false', decide_eq_true_eq] at h
      exact ⟨h.1.1.1.1, ⟨by omega, by omega⟩, by omega, by omega⟩
  · have h2 : (200 : Int) ≤ (l.list.getD k.toNat default).costs.length := of_decide_eq_true h2
    have he : pushE l k c = 7 := by unfold pushE; rw [if_pos hp, if_pos (by omega)]
    rw [show pushL l k c = l from if_neg (by rw [he]; decide), he]
    repeat' first | (with_reducible first | refine nI1 ?_ | refine nI2 ?_ | refine nI3 ?_ | exact ⟨⟩ | refine Both.mk (fun _ => ?_) fun _ => ?_ | refine Both2.mk (fun _ => ?_) ?_ | (refine Need.mk ?_ ?_; (first | omega | exact CEq.refl _ | (dsimp only [rng]; omega) | (simp only [decide_eq_true_eq, decide_eq_false_iff_not, Bool.or_eq_true, Bool.and_eq_true, Bool.or_eq_false_iff, Int.toNat_natCast, addN_eq, cond_false, cond_true, rng] at *; omega) | exact ⟨rfl, rfl⟩))) | ((with_reducible refine Need.mk ?_ ?_); exact CEq.refl _) | ((with_reducible fail_if_success first | constructor | show False); conv => whnf)
  · have h2 : ¬ (200 : Int) ≤ (l.list.getD k.toNat default).costs.length := of_decide_eq_false h2
    have he : pushE l k c = 0 := by unfold pushE; rw [if_pos hp, if_neg (by omega)]
    rw [show pushL l k c = pushX l k.toNat c from if_pos he, he]
    obtain ⟨hr, ⟨k1, k2⟩, c1, c2⟩ := (show right l ∧ (0 ≤ k ∧ k < l.list.length) ∧ 1 ≤ c ∧ c ≤ 8 from hp)
    obtain ⟨n, rfl⟩ : ∃ n : Nat, k = n := ⟨k.toNat, by omega⟩
    rw [Int.toNat_natCast] at *
    refine CallVC.mk' (fun _ => sl_Clone_lanes_Lane_ok K.m K.cloneL l.list.length (fun i j => lnE (l.list.getD i default) j) (by omega)) (fun _ => .cons (.one (CEq.refl _)) .nil) ?_
    repeat' first | (with_reducible first | refine nI1 ?_ | refine nI2 ?_ | refine nI3 ?_ | exact ⟨⟩ | refine Both.mk (fun _ => ?_) fun _ => ?_ | refine Both2.mk (fun _ => ?_) ?_ | (refine Need.mk ?_ ?_; (first | omega | exact CEq.refl _ | (dsimp only [rng]; omega) | (simp only [decide_eq_true_eq, decide_eq_false_iff_not, Bool.or_eq_true, Bool.and_eq_true, Bool.or_eq_false_iff, Int.toNat_natCast, addN_eq, cond_false, cond_true, rng] at *; omega) | exact ⟨rfl, rfl⟩))) | ((with_reducible refine Need.mk ?_ ?_); exact CEq.refl _) | ((with_reducible fail_if_success first | constructor | show False); conv => whnf)
    rw [Int.toNat_natCast]
    refine CallVC.mk' (fun _ => sl_Clone_int_ok K.m K.cloneI (l.list.getD n default).costs.length (fun i j => intE ((l.list.getD n default).costs.getD i default) j) (by omega)) (fun _ => .cons (.one ?_) .nil) ?_
    · exact CEq.refl _
    repeat' first | (with_reducible first | refine nI1 ?_ | refine nI2 ?_ | refine nI3 ?_ | exact ⟨⟩ | refine Both.mk (fun _ => ?_) fun _ => ?_ | refine Both2.mk (fun _ => ?_) ?_ | (refine Need.mk ?_ ?_; (first | omega | exact CEq.refl _ | (dsimp only [rng]; omega) | (simp only [decide_eq_true_eq, decide_eq_false_iff_not, Bool.or_eq_true, Bool.and_eq_true, Bool.or_eq_false_iff, Int.toNat_natCast, addN_eq, cond_false, cond_true, rng] at *; omega) | exact ⟨rfl, rfl⟩))) | ((with_reducible refine Need.mk ?_ ?_); exact CEq.refl _) | ((with_reducible fail_if_success first | constructor | show False); conv => whnf)
    have hcs : CEq (Cell.sl 1 ((l.list.getD n default).costs.length + 1) fun i j => appC (fun i j => intE ((l.list.getD n default).costs.getD i default) j) (l.list.getD n default).costs.length (fun i j => rowsL [(0, fun i => match i with | 0 => Cell.int IntKind.i64 c | i + 1 => Cell.bool false)] (fun x j => cells [Cst.int IntKind.i64 0] j) (addN 0 i) j) (addN 0 i) j) (slL 1 intE ((l.list.getD n default).costs ++ [c])) :=
      (IsL.refl.app rfl (IsL.one fun j hj => by (obtain rfl : j = 0 := (by omega)); exact CEq.refl _)).off.ceq (by simp)
    refine Need.mk ((IsL.cost (l := l.list) (k := n) IsL.refl hcs).off.ceq (by simp)) ?_
    repeat' first | (with_reducible first | refine nI1 ?_ | refine nI2 ?_ | refine nI3 ?_ | exact ⟨⟩ | refine Both.mk (fun _ => ?_) fun _ => ?_ | refine Both2.mk (fun _ => ?_) ?_ | (refine Need.mk ?_ ?_; (first | omega | exact CEq.refl _ | (dsimp only [rng]; omega) | (simp only [decide_eq_true_eq, decide_eq_false_iff_not, Bool.or_eq_true, Bool.and_eq_true, Bool.or_eq_false_iff, Int.toNat_natCast, addN_eq, cond_false, cond_true, rng] at *; omega) | exact ⟨rfl, rfl⟩))) | ((with_reducible refine Need.mk ?_ ?_); exact CEq.refl _) | ((with_reducible fail_if_success first | constructor | show False); conv => whnf)
end
end Lk.S05
namespace Lk.S05
open Go Lk
def pos (l : Ls) : Nat := l.at_.toNat
def cur (l : Ls) : Ln := l.list.getD (pos l) default
def gv (l : Ls) : Int := if l.given then (cur l).deficit else (cur l).deficit + (cur l).weight * 4
def hd0 (l : Ls) : Int := (cur l).costs.getD 0 default
def adv (l : Ls) (d : Int) : Ls := ⟨l.list.set (pos l) ⟨(cur l).weight, d, (cur l).costs⟩, (l.at_ + 1) % l.list.length, false⟩
def srv (l : Ls) : Ls := ⟨l.list.set (pos l) ⟨(cur l).weight, if (cur l).costs.drop 1 = [] then 0 else gv l - hd0 l, (cur l).costs.drop 1⟩, l.at_, true⟩
def turn (l : Ls) : Ls × Option Int := if (cur l).costs = [] then (adv l 0, none) else if gv l < hd0 l then (adv l (gv l), none) else (srv l, some (hd0 l))
variable {l : Ls}
theorem right.pos (h : right l) : pos l < l.list.length ∧ ((pos l : Nat) : Int) = l.at_ := by
  have := h.2.1; unfold S05.pos; omega
theorem right.cur (h : right l) : okLn (mst l (S05.pos l)) (cur l) := h.2.2 _ h.pos.1
theorem gv_bd (h : right l) : 0 ≤ gv l ∧ gv l ≤ 39 := by
  have hc := h.cur
  unfold gv
  unfold mst at hc
  rw [h.pos.2] at hc
  obtain ⟨⟨w1, w2⟩, ⟨d1, d2⟩, -⟩ := hc
  cases hg : l.given with
  | true => rw [hg] at d2; simp at d2 ⊢; omega
  | false => rw [hg] at d2; simp at d2 ⊢; omega
theorem hd_bd (h : right l) (hn : (cur l).costs ≠ []) : 1 ≤ hd0 l ∧ hd0 l ≤ 8 := by
  refine h.cur.2.2.2 _ (getD_mem ?_)
  cases hc : (cur l).costs with
  | nil => exact absurd hc hn
  | cons => simp
theorem adv_len (d : Int) : (adv l d).list.length = l.list.length := List.length_set ..
theorem adv_at {d : Int} {i : Nat} (hi : i < l.list.length) : (adv l d).list.getD i default = if i = pos l then ⟨(cur l).weight, d, (cur l).costs⟩ else l.list.getD i default := setL_getD hi
theorem srv_len : (srv l).list.length = l.list.length := List.length_set ..
theorem srv_at {i : Nat} (hi : i < l.list.length) : (srv l).list.getD i default = if i = pos l then ⟨(cur l).weight, if (cur l).costs.drop 1 = [] then 0 else gv l - hd0 l, (cur l).costs.drop 1⟩ else l.list.getD i default := setL_getD hi
theorem adv_right {d : Int} (h : right l) (h1 : 0 ≤ d) (h2 : d ≤ 7) : right (adv l d) := by
  have hp := h.pos
  obtain ⟨⟨a, b⟩, ⟨c, e⟩, f⟩ := (show right l from h)
  refine ⟨by rw [adv_len]; exact ⟨a, b⟩, ?_, fun i hi => ?_⟩
  · rw [adv_len]
    show 0 ≤ (l.at_ + 1) % (l.list.length : Int) ∧ (l.at_ + 1) % (l.list.length : Int) < _
    exact ⟨Int.emod_nonneg _ (by omega), Int.emod_lt_of_pos _ (by omega)⟩
  · rw [adv_len] at hi
    have hm : mst (adv l d) i = 7 := if_neg fun x => absurd x.2 (by show ¬ (false = true); decide)
    rw [hm, adv_at hi]
    by_cases e2 : i = S05.pos l
    · rw [if_pos e2]
      have := h.cur
      exact ⟨this.1, ⟨h1, h2⟩, this.2.2⟩
    · rw [if_neg e2]
      have := f i hi
      rw [show mst l i = 7 from if_neg fun x => e2 (by omega)] at this
      exact this
theorem srv_right (h : right l) (hn : (cur l).costs ≠ []) (hs : ¬ gv l < hd0 l) : right (srv l) := by
  have hp := h.pos
  have hg := gv_bd h
  have hh := hd_bd h hn
  obtain ⟨⟨a, b⟩, ⟨c, e⟩, f⟩ := (show right l from h)
  refine ⟨by rw [srv_len]; exact ⟨a, b⟩, by rw [srv_len]; exact ⟨c, e⟩, fun i hi => ?_⟩
  rw [srv_len] at hi
  rw [srv_at hi]
  by_cases e2 : i = S05.pos l
  · have hm : mst (srv l) i = 39 := if_pos ⟨by show (i : Int) = l.at_; omega, rfl⟩
    rw [if_pos e2, hm]
    have hc := h.cur
    refine ⟨hc.1, ?_, ?_, fun c hc' => hc.2.2.2 c (List.mem_of_mem_drop hc')⟩
    · show 0 ≤ (if (cur l).costs.drop 1 = [] then (0 : Int) else gv l - hd0 l) ∧ (if (cur l).costs.drop 1 = [] then (0 : Int) else gv l - hd0 l) ≤ 39
      split <;> omega
    · show ((cur l).costs.drop 1).length ≤ 200
      rw [List.length_drop]; have := hc.2.2.1; omega
  · have hm : mst (srv l) i = 7 := if_neg fun x => e2 (by have : (i : Int) = l.at_ := x.1; omega)
    rw [if_neg e2, hm]
    have := f i hi
    rw [show mst l i = 7 from if_neg fun x => e2 (by omega)] at this
    exact this
/-- Who waits first; how long a turn of his is off. -/
def tgt (l : Ls) : Nat := fstN (wtB l) l.list.length
def mu (l : Ls) : Nat := (8 - (l.list.getD (tgt l) default).deficit).toNat * l.list.length + (tgt l + l.list.length - pos l) % l.list.length + (if tgt l = pos l ∧ l.given = true then l.list.length else 0)
theorem adv_tgt {d : Int} : tgt (adv l d) = tgt l := by
  unfold tgt
  rw [adv_len]
  refine fstN_congr fun i hi => ?_
  unfold wtB
  rw [adv_at hi]
  by_cases e : i = S05.pos l
  · rw [if_pos e, e]; rfl
  · rw [if_neg e]
theorem adv_waits {d : Int} (h : waits l) : waits (adv l d) := by
  rw [← waits_fst] at h ⊢
  have e := adv_tgt (l := l) (d := d)
  unfold tgt at e
  rw [e, adv_len]; exact h
theorem mod_step {j a n : Nat} (ha : a < n) (hj : j < n) (hne : j ≠ a) : (j + n - (a + 1) % n) % n + 1 = (j + n - a) % n := by
  rcases Nat.lt_or_ge (a + 1) n with h | h
  · rw [Nat.mod_eq_of_lt h]
    rcases Nat.lt_or_ge j a with h2 | h2
    · rw [Nat.mod_eq_of_lt (show j + n - (a + 1) < n by omega), Nat.mod_eq_of_lt (show j + n - a < n by omega)]; omega
    · rw [show j + n - (a + 1) = (j - a - 1) + n by omega, show j + n - a = (j - a) + n by omega, Nat.add_mod_right, Nat.add_mod_right, Nat.mod_eq_of_lt (show j - a - 1 < n by omega), Nat.mod_eq_of_lt (show j - a < n by omega)]; omega
  · have e : a + 1 = n := by omega
    rw [e, Nat.mod_self, show j + n - 0 = j + n by omega, Nat.add_mod_right, Nat.mod_eq_of_lt hj, Nat.mod_eq_of_lt (show j + n - a < n by omega)]; omega
theorem adv_pos {d : Int} (h : right l) : pos (adv l d) = (pos l + 1) % l.list.length := by
  have hp := h.pos
  show ((l.at_ + 1) % (l.list.length : Int)).toNat = _
  rw [← hp.2]
  have : ((S05.pos l : Int) + 1) % (l.list.length : Int) = (((S05.pos l + 1) % l.list.length : Nat) : Int) := by push_cast; rfl
  rw [this, Int.toNat_natCast]
theorem adv_mu {d : Int} (h : right l) (hw : waits l) (h1 : 0 ≤ d) (hc : (cur l).costs = [] ∨ (d < 8 ∧ d = gv l)) : mu (adv l d) < mu l := by
  have hp := h.pos
  have hj : tgt l < l.list.length := (waits_fst l).2 hw
  have hjc : 0 < (l.list.getD (tgt l) default).costs.length := of_decide_eq_true (fstN_at hj)
  have hgf : ¬ (tgt l = pos (adv l d) ∧ (adv l d).given = true) := fun x => absurd x.2 (by show ¬ (false = true); decide)
  unfold mu
  rw [adv_tgt, adv_len, adv_pos h, adv_pos h |>.symm, if_neg hgf, adv_pos h, adv_at hj]
  generalize hn : l.list.length = n at *
  by_cases e : tgt l = S05.pos l
  · rw [if_pos e]
    have hcne : (cur l).costs ≠ [] := fun x => by
      rw [e] at hjc
      have : (cur l).costs.length = 0 := by rw [x]; rfl
      unfold S05.cur at this; omega
    obtain ⟨hd8, hdg⟩ := hc.resolve_left hcne
    have hcd : l.list.getD (tgt l) default = cur l := by rw [e]; rfl
    rw [hcd]
    have hcok := h.cur
    have hmod : (tgt l + n - (S05.pos l + 1) % n) % n < n := Nat.mod_lt _ (by omega)
    cases hg : l.given with
    | true =>
      rw [if_pos ⟨e, rfl⟩]
      have : gv l = (cur l).deficit := if_pos hg
      have e3 : (8 - d).toNat = (8 - (cur l).deficit).toNat := by omega
      show (8 - d).toNat * n + _ + 0 < _
      rw [e3]; omega
    | false =>
      rw [if_neg (fun x => absurd x.2 (by decide))]
      have hgv : gv l = (cur l).deficit + (cur l).weight * 4 := if_neg (by rw [hg]; decide)
      have hw1 := hcok.1.1
      have e3 : (8 - d).toNat + 4 ≤ (8 - (cur l).deficit).toNat := by omega
      show (8 - d).toNat * n + _ + 0 < _
      have e4 : ((8 - d).toNat + 4) * n ≤ (8 - (cur l).deficit).toNat * n := Nat.mul_le_mul_right n e3
      rw [Nat.add_mul] at e4
      omega
  · rw [if_neg e, if_neg (fun x => e x.1)]
    have := mod_step (j := tgt l) (a := S05.pos l) (n := n) (by omega) hj e
    omega
def nextF : Nat → Ls → Ls × Int
  | 0, l => (l, 0)
  | k + 1, l => match turn l with
    | (m, none) => nextF k m
    | (m, some c) => (m, c)
def nx (l : Ls) : Ls × Int := nextF (mu l + 1) l
theorem turn_none {m : Ls} (h : right l) (hw : waits l) (ht : turn l = (m, none)) : right m ∧ waits m ∧ mu m < mu l := by
  unfold turn at ht
  split at ht
  · rename_i hc
    obtain rfl : adv l 0 = m := congrArg Prod.fst ht
    exact ⟨adv_right h (by decide) (by decide), adv_waits hw, adv_mu h hw (by decide) (.inl hc)⟩
  · rename_i hc
    split at ht
    · rename_i hd
      obtain rfl : adv l (gv l) = m := congrArg Prod.fst ht
      have hg := gv_bd h
      have hh := hd_bd h hc
      exact ⟨adv_right h (by omega) (by omega), adv_waits hw, adv_mu h hw (by omega) (.inr ⟨by omega, rfl⟩)⟩
    · cases congrArg Prod.snd ht
theorem nextF_more : ∀ {k j : Nat} {l : Ls}, right l → waits l → mu l < k → mu l < j → nextF k l = nextF j l := by
  intro k
  induction k with
  | zero => intro j l _ _ h; omega
  | succ k ih =>
    intro j l h hw hk hj
    obtain ⟨j, rfl⟩ : ∃ i, j = i + 1 := ⟨j - 1, by omega⟩
    rw [nextF, nextF]
    cases ht : turn l with | mk m o =>
    cases o with
    | some c => rfl
    | none =>
      obtain ⟨a, b, c⟩ := turn_none h hw ht
      exact ih a b (by omega) (by omega)
theorem nx_none {m : Ls} (h : right l) (hw : waits l) (ht : turn l = (m, none)) : nx l = nx m := by
  obtain ⟨a, b, c⟩ := turn_none h hw ht
  unfold nx
  rw [nextF, ht]
  exact nextF_more a b c (Nat.lt_succ_self _)
theorem nx_some {m : Ls} {c : Int} (ht : turn l = (m, some c)) : nx l = (m, c) := by
  unfold nx
  rw [nextF, ht]
theorem turn_some {m : Ls} {c : Int} (h : right l) (ht : turn l = (m, some c)) : (cur l).costs ≠ [] ∧ ¬ gv l < hd0 l ∧ m = srv l ∧ c = hd0 l ∧ right m := by
  unfold turn at ht
  split at ht
  · cases congrArg Prod.snd ht
  · rename_i hc
    split at ht
    · cases congrArg Prod.snd ht
    · rename_i hd
      obtain rfl : srv l = m := congrArg Prod.fst ht
      exact ⟨hc, hd, rfl, (Option.some.inj (congrArg Prod.snd ht)).symm, srv_right h hc hd⟩
/-- A property that turns keep. -/
theorem nx_ind (J : Ls → Prop) (C : Ls → Int → Prop) (hn : ∀ l m, right l → waits l → J l → turn l = (m, none) → J m) (hs : ∀ l, right l → J l → (cur l).costs ≠ [] → ¬ gv l < hd0 l → C (srv l) (hd0 l)) :
    ∀ {l : Ls}, right l → waits l → J l → right (nx l).1 ∧ C (nx l).1 (nx l).2 := by
  have key : ∀ k, ∀ l, mu l < k → right l → waits l → J l → right (nx l).1 ∧ C (nx l).1 (nx l).2 := by
    intro k
    induction k with
    | zero => intro l h; omega
    | succ k ih =>
      intro l hk h hw hj
      cases ht : turn l with | mk m o =>
      cases o with
      | some c =>
        obtain ⟨a, b, rfl, rfl, e⟩ := turn_some h ht
        rw [nx_some ht]
        exact ⟨e, hs l h hj a b⟩
      | none =>
        obtain ⟨a, b, c⟩ := turn_none h hw ht
        rw [nx_none h hw ht]
        exact ih m (by omega) a b (hn l m h hw hj ht)
  exact fun {l} => key (mu l + 1) l (Nat.lt_succ_self _)
end Lk.S05
