/-
  Gs05a: what these chapters need.
-/
import Derived.Test.YtaijfhomokkpeaaCCb
import Derived.Test.YtaijfhomokkpeaaLkC
set_option linter.unusedSimpArgs false
set_option maxHeartbeats 8000000
set_option maxRecDepth 100000
set_option linter.unusedVariables false
namespace Lk.S05
open Go Lk Lk.C
structure Ln where
  weight : Int
  deficit : Int
  costs : List Int
deriving DecidableEq
instance : Inhabited Ln := ⟨⟨0, 0, []⟩⟩
structure Ls where
  list : List Ln
  at_ : Int
  given : Bool
deriving DecidableEq
def intE (k : Int) (_ : Nat) : Cell := .int .i64 k
def lnE (x : Ln) (j : Nat) : Cell :=
  match j with
  | 0 => .int .i64 x.weight
  | 1 => .int .i64 x.deficit
  | _ => slL 1 intE x.costs
def lsE (l : Ls) (j : Nat) : Cell :=
  match j with
  | 0 => slL 3 lnE l.list
  | 1 => .int .i64 l.at_
  | _ => .bool l.given
def mst (l : Ls) (i : Nat) : Int := if (i : Int) = l.at_ ∧ l.given = true then 39 else 7
def okLn (m : Int) (x : Ln) : Prop := (1 ≤ x.weight ∧ x.weight ≤ 8) ∧ (0 ≤ x.deficit ∧ x.deficit ≤ m) ∧ x.costs.length ≤ 200 ∧ ∀ c ∈ x.costs, 1 ≤ c ∧ c ≤ 8
instance (m : Int) (x : Ln) : Decidable (okLn m x) := by unfold okLn; infer_instance
def right (l : Ls) : Prop := (1 ≤ l.list.length ∧ l.list.length ≤ 6) ∧ (0 ≤ l.at_ ∧ l.at_ < l.list.length) ∧ ∀ i, i < l.list.length → okLn (mst l i) (l.list.getD i default)
instance (l : Ls) : Decidable (right l) := by unfold right; infer_instance
structure Tiny (l : Ls) : Prop where
  n : l.list.length ≤ 1000000
  c : ∀ x ∈ l.list, x.costs.length ≤ 1000000
section
variable {P : Program} {F : Nat → Nat}
theorem right_ok (hm : P.follows .mixedOrders = true) (hk : lanes_Right_k P F) (l : Ls) (T : Tiny l) : FnOk P (F 76) [.many 3 (lsE l)] [.one (.im (.bool (decide (right l))))] := by
  refine fnOk hm hk ?_
  have hn := T.n
  repeat' first | (with_reducible first | refine wkI ?_ | exact ⟨⟩ | refine wkB (fun _ => ?_) fun _ => ?_ | refine wkT (fun _ => ?_) ?_ | refine wkS ?_) | ((with_reducible refine wkC ?_ ?_); exact CEq.refl _) | ((with_reducible fail_if_success first | constructor | show False); conv => whnf)
  · rename_i h
    rw [decide_eq_false (fun x => by
      obtain ⟨⟨a, b⟩, ⟨c, d⟩, -⟩ := x
      simp only [Bool.or_eq_true, decide_eq_true_eq] at h; omega)]
    repeat' first | (with_reducible first | refine wkI ?_ | exact ⟨⟩ | refine wkB (fun _ => ?_) fun _ => ?_ | refine wkT (fun _ => ?_) ?_ | refine wkS ?_) | ((with_reducible refine wkC ?_ ?_); exact CEq.refl _) | ((with_reducible fail_if_success first | constructor | show False); conv => whnf)
  · rename_i h
    simp only [Bool.or_eq_false_iff, decide_eq_false_iff_not] at h
    refine LoopVC.inv (fun i : Nat => i ≤ l.list.length ∧ ∀ k, k < i → okLn (mst l k) (l.list.getD k default)) (fun i => stL [(1, .va 1 0 0), (32, .c (slL 3 lnE l.list)), (33, .c (.int .i64 l.list.length)), (34, .c (.int .i64 i))]
      [(1, vE [.c (slL 3 lnE l.list), .c (.int .i64 l.at_), .c (.bool l.given)])]) (fun i => l.list.length - i) 0 ⟨Nat.zero_le _, fun k hk => by omega⟩ ?_ ?_
    · (refine Le.of ?_ ?_ <;> repeat' first | exact trivial | exact CEq.refl _ | exact rfl | exact cI (by push_cast; first | rfl | omega) | exact SubE.dat fun _ _ _ _ => CEq.refl _ | refine SubE.varN ?_ | refine Exists.intro _ (And.intro rfl ?_) | refine And.intro ?_ ?_)
    rintro Q hQ i ⟨hi, hok⟩
    repeat' first | (with_reducible first | refine wkI ?_ | exact ⟨⟩ | refine wkB (fun _ => ?_) fun _ => ?_ | refine wkT (fun _ => ?_) ?_ | refine wkS ?_) | ((with_reducible refine wkC ?_ ?_); exact CEq.refl _) | ((with_reducible fail_if_success first | constructor | show False); conv => whnf)
    · rename_i h3 h4 h5
      have h3 : (i : Int) < l.list.length := of_decide_eq_true h3
      have hm0 : mst l i = 39 := if_pos (by have h4 := h4; simp at h4; first | exact h4 | exact fun x => absurd x.2 (by rw [h4 x.1]; decide))
      rw [Int.toNat_natCast] at *
      refine Out.mk (hQ _ _ ?_)
      rw [decide_eq_false (fun x => by
        obtain ⟨⟨a1, a2⟩, ⟨b1, b2⟩, -⟩ := x.2.2 i (by omega)
        simp only [Bool.or_eq_true, decide_eq_true_eq] at h5; omega)]
      repeat' first | (with_reducible first | refine wkI ?_ | exact ⟨⟩ | refine wkB (fun _ => ?_) fun _ => ?_ | refine wkT (fun _ => ?_) ?_ | refine wkS ?_) | ((with_reducible refine wkC ?_ ?_); exact CEq.refl _) | ((with_reducible fail_if_success first | constructor | show False); conv => whnf)
    · rename_i h3 h4 h5 h6
      have h3 : (i : Int) < l.list.length := of_decide_eq_true h3
      have hm0 : mst l i = 39 := if_pos (by have h4 := h4; simp at h4; first | exact h4 | exact fun x => absurd x.2 (by rw [h4 x.1]; decide))
      rw [Int.toNat_natCast] at *
      refine Out.mk (hQ _ _ ?_)
      rw [decide_eq_false (fun x => by
        obtain ⟨-, -, a, -⟩ := x.2.2 i (by omega)
        simp only [decide_eq_true_eq] at h6; omega)]
      repeat' first | (with_reducible first | refine wkI ?_ | exact ⟨⟩ | refine wkB (fun _ => ?_) fun _ => ?_ | refine wkT (fun _ => ?_) ?_ | refine wkS ?_) | ((with_reducible refine wkC ?_ ?_); exact CEq.refl _) | ((with_reducible fail_if_success first | constructor | show False); conv => whnf)
    · rename_i h3 h4 h5 h6
      have h3 : (i : Int) < l.list.length := of_decide_eq_true h3
      have hm0 : mst l i = 39 := if_pos (by have h4 := h4; simp at h4; first | exact h4 | exact fun x => absurd x.2 (by rw [h4 x.1]; decide))
      rw [Int.toNat_natCast] at *
      simp only [Bool.or_eq_false_iff, decide_eq_false_iff_not] at h5 h6
      have hcl := T.c _ (getD_mem (show i < l.list.length by omega))
      refine LoopVC.inv (fun k : Nat => k ≤ (l.list.getD i default).costs.length ∧ ∀ j, j < k → 1 ≤ (l.list.getD i default).costs.getD j default ∧ (l.list.getD i default).costs.getD j default ≤ 8) (fun k => stL [(1, .va 1 0 0), (32, .c (slL 3 lnE l.list)), (33, .c (.int .i64 l.list.length)), (34, .c (.int .i64 i)), (71, .c (slL 1 intE (l.list.getD i default).costs)), (72, .c (.int .i64 (l.list.getD i default).costs.length)), (73, .c (.int .i64 k))]
        [(1, vE [.c (slL 3 lnE l.list), .c (.int .i64 l.at_), .c (.bool l.given)])]) (fun k => (l.list.getD i default).costs.length - k) 0 ⟨Nat.zero_le _, fun j hj => by omega⟩ ?_ ?_
      · (refine Le.of ?_ ?_ <;> repeat' first | exact trivial | exact CEq.refl _ | exact rfl | exact cI (by push_cast; first | rfl | omega) | exact SubE.dat fun _ _ _ _ => CEq.refl _ | refine SubE.varN ?_ | refine Exists.intro _ (And.intro rfl ?_) | refine And.intro ?_ ?_)
      rintro Q2 hQ2 k ⟨hk, hkc⟩
      repeat' first | (with_reducible first | refine wkI ?_ | exact ⟨⟩ | refine wkB (fun _ => ?_) fun _ => ?_ | refine wkT (fun _ => ?_) ?_ | refine wkS ?_) | ((with_reducible refine wkC ?_ ?_); exact CEq.refl _) | ((with_reducible fail_if_success first | constructor | show False); conv => whnf)
      · rename_i h7 h8
        have h7 : (k : Int) < (l.list.getD i default).costs.length := of_decide_eq_true h7
        refine Out.mk (hQ2 _ _ ?_)
        refine Out.mk (hQ _ _ ?_)
        rw [decide_eq_false (fun x => by
          obtain ⟨-, -, -, a⟩ := x.2.2 i (by omega)
          have := a _ (getD_mem (show k < (l.list.getD i default).costs.length by omega))
          rw [Int.toNat_natCast] at h8
          simp only [Bool.or_eq_true, decide_eq_true_eq] at h8; omega)]
        repeat' first | (with_reducible first | refine wkI ?_ | exact ⟨⟩ | refine wkB (fun _ => ?_) fun _ => ?_ | refine wkT (fun _ => ?_) ?_ | refine wkS ?_) | ((with_reducible refine wkC ?_ ?_); exact CEq.refl _) | ((with_reducible fail_if_success first | constructor | show False); conv => whnf)
      · rename_i h7 h8
        have h7 : (k : Int) < (l.list.getD i default).costs.length := of_decide_eq_true h7
        rw [Int.toNat_natCast] at h8
        simp only [Bool.or_eq_false_iff, decide_eq_false_iff_not] at h8
        refine LoopEnd.mk ⟨k + 1, ⟨by omega, fun j hj => ?_⟩, by omega, by (refine Le.of ?_ ?_ <;> repeat' first | exact trivial | exact CEq.refl _ | exact rfl | exact cI (by push_cast; first | rfl | omega) | exact SubE.dat fun _ _ _ _ => CEq.refl _ | refine SubE.varN ?_ | refine Exists.intro _ (And.intro rfl ?_) | refine And.intro ?_ ?_)⟩
        rcases Nat.lt_or_ge j k with h9 | h9
        · exact hkc j h9
        · obtain rfl : j = k := by omega
          omega
      · rename_i h7
        have h7 : ¬ (k : Int) < (l.list.getD i default).costs.length := of_decide_eq_false h7
        refine Out.mk (hQ2 _ _ ?_)
        repeat' first | (with_reducible first | refine wkI ?_ | exact ⟨⟩ | refine wkB (fun _ => ?_) fun _ => ?_ | refine wkT (fun _ => ?_) ?_ | refine wkS ?_) | ((with_reducible refine wkC ?_ ?_); exact CEq.refl _) | ((with_reducible fail_if_success first | constructor | show False); conv => whnf)
        refine LoopEnd.mk ⟨i + 1, ⟨by omega, fun j hj => ?_⟩, by omega, by (refine Le.of ?_ ?_ <;> repeat' first | exact trivial | exact CEq.refl _ | exact rfl | exact cI (by push_cast; first | rfl | omega) | exact SubE.dat fun _ _ _ _ => CEq.refl _ | refine SubE.varN ?_ | refine Exists.intro _ (And.intro rfl ?_) | refine And.intro ?_ ?_)⟩
        rcases Nat.lt_or_ge j i with h9 | h9
        · exact hok j h9
        · obtain rfl : j = i := by omega
          rw [hm0]
          exact ⟨by omega, by omega, by omega, all_of_getD fun j hj => hkc j (by omega)⟩
    · rename_i h3 h4 h5
      have h3 : (i : Int) < l.list.length := of_decide_eq_true h3
      have hm0 : mst l i = 7 := if_neg (by have h4 := h4; simp at h4; first | exact h4 | exact fun x => absurd x.2 (by rw [h4 x.1]; decide))
      rw [Int.toNat_natCast] at *
      refine Out.mk (hQ _ _ ?_)
      rw [decide_eq_false (fun x => by
        obtain ⟨⟨a1, a2⟩, ⟨b1, b2⟩, -⟩ := x.2.2 i (by omega)
        simp only [Bool.or_eq_true, decide_eq_true_eq] at h5; omega)]
      repeat' first | (with_reducible first | refine wkI ?_ | exact ⟨⟩ | refine wkB (fun _ => ?_) fun _ => ?_ | refine wkT (fun _ => ?_) ?_ | refine wkS ?_) | ((with_reducible refine wkC ?_ ?_); exact CEq.refl _) | ((with_reducible fail_if_success first | constructor | show False); conv => whnf)
    · rename_i h3 h4 h5 h6
      have h3 : (i : Int) < l.list.length := of_decide_eq_true h3
      have hm0 : mst l i = 7 := if_neg (by have h4 := h4; simp at h4; first | exact h4 | exact fun x => absurd x.2 (by rw [h4 x.1]; decide))
      rw [Int.toNat_natCast] at *
      refine Out.mk (hQ _ _ ?_)
      rw [decide_eq_false (fun x => by
        obtain ⟨-, -, a, -⟩ := x.2.2 i (by omega)
        simp only [decide_eq_true_eq] at h6; omega)]
      repeat' first | (with_reducible first | refine wkI ?_ | exact ⟨⟩ | refine wkB (fun _ => ?_) fun _ => ?_ | refine wkT (fun _ => ?_) ?_ | refine wkS ?_) | ((with_reducible refine wkC ?_ ?_); exact CEq.refl _) | ((with_reducible fail_if_success first | constructor | show False); conv => whnf)
    · rename_i h3 h4 h5 h6
      have h3 : (i : Int) < l.list.length := of_decide_eq_true h3
      have hm0 : mst l i = 7 := if_neg (by have h4 := h4; simp at h4; first | exact h4 | exact fun x => absurd x.2 (by rw [h4 x.1]; decide))
      rw [Int.toNat_natCast] at *
      simp only [Bool.or_eq_false_iff, decide_eq_false_iff_not] at h5 h6
      have hcl := T.c _ (getD_mem (show i < l.list.length by omega))
      refine LoopVC.inv (fun k : Nat => k ≤ (l.list.getD i default).costs.length ∧ ∀ j, j < k → 1 ≤ (l.list.getD i default).costs.getD j default ∧ (l.list.getD i default).costs.getD j default ≤ 8) (fun k => stL [(1, .va 1 0 0), (32, .c (slL 3 lnE l.list)), (33, .c (.int .i64 l.list.length)), (34, .c (.int .i64 i)), (71, .c (slL 1 intE (l.list.getD i default).costs)), (72, .c (.int .i64 (l.list.getD i default).costs.length)), (73, .c (.int .i64 k))]
        [(1, vE [.c (slL 3 lnE l.list), .c (.int .i64 l.at_), .c (.bool l.given)])]) (fun k => (l.list.getD i default).costs.length - k) 0 ⟨Nat.zero_le _, fun j hj => by omega⟩ ?_ ?_
      · (refine Le.of ?_ ?_ <;> repeat' first | exact trivial | exact CEq.refl _ | exact rfl | exact cI (by push_cast; first | rfl | omega) | exact SubE.dat fun _ _ _ _ => CEq.refl _ | refine SubE.varN ?_ | refine Exists.intro _ (And.intro rfl ?_) | refine And.intro ?_ ?_)
      rintro Q2 hQ2 k ⟨hk, hkc⟩
      repeat' first | (with_reducible first | refine wkI ?_ | exact ⟨⟩ | refine wkB (fun _ => ?_) fun _ => ?_ | refine wkT (fun _ => ?_) ?_ | refine wkS ?_) | ((with_reducible refine wkC ?_ ?_); exact CEq.refl _) | ((with_reducible fail_if_success first | constructor | show False); conv => whnf)
      · rename_i h7 h8
        have h7 : (k : Int) < (l.list.getD i default).costs.length := of_decide_eq_true h7
        refine Out.mk (hQ2 _ _ ?_)
        refine Out.mk (hQ _ _ ?_)
        rw [decide_eq_false (fun x => by
          obtain ⟨-, -, -, a⟩ := x.2.2 i (by omega)
          have := a _ (getD_mem (show k < (l.list.getD i default).costs.length by omega))
          rw [Int.toNat_natCast] at h8
          simp only [Bool.or_eq_true, decide_eq_true_eq] at h8; omega)]
        repeat' first | (with_reducible first | refine wkI ?_ | exact ⟨⟩ | refine wkB (fun _ => ?_) fun _ => ?_ | refine wkT (fun _ => ?_) ?_ | refine wkS ?_) | ((with_reducible refine wkC ?_ ?_); exact CEq.refl _) | ((with_reducible fail_if_success first | constructor | show False); conv => whnf)
      · rename_i h7 h8
        have h7 : (k : Int) < (l.list.getD i default).costs.length := of_decide_eq_true h7
        rw [Int.toNat_natCast] at h8
        simp only [Bool.or_eq_false_iff, decide_eq_false_iff_not] at h8
        refine LoopEnd.mk ⟨k + 1, ⟨by omega, fun j hj => ?_⟩, by omega, by (refine Le.of ?_ ?_ <;> repeat' first | exact trivial | exact CEq.refl _ | exact rfl | exact cI (by push_cast; first | rfl | omega) | exact SubE.dat fun _ _ _ _ => CEq.refl _ | refine SubE.varN ?_ | refine Exists.intro _ (And.intro rfl ?_) | refine And.intro ?_ ?_)⟩
        rcases Nat.lt_or_ge j k with h9 | h9
        · exact hkc j h9
        · obtain rfl : j = k := by omega
          omega
      · rename_i h7
        have h7 : ¬ (k : Int) < (l.list.getD i default).costs.length := of_decide_eq_false h7
        refine Out.mk (hQ2 _ _ ?_)
        repeat' first | (with_reducible first | refine wkI ?_ | exact ⟨⟩ | refine wkB (fun _ => ?_) fun _ => ?_ | refine wkT (fun _ => ?_) ?_ | refine wkS ?_) | ((with_reducible refine wkC ?_ ?_); exact CEq.refl _) | ((with_reducible fail_if_success first | constructor | show False); conv => whnf)
        refine LoopEnd.mk ⟨i + 1, ⟨by omega, fun j hj => ?_⟩, by omega, by (refine Le.of ?_ ?_ <;> repeat' first | exact trivial | exact CEq.refl _ | exact rfl | exact cI (by push_cast; first | rfl | omega) | exact SubE.dat fun _ _ _ _ => CEq.refl _ | refine SubE.varN ?_ | refine Exists.intro _ (And.intro rfl ?_) | refine And.intro ?_ ?_)⟩
        rcases Nat.lt_or_ge j i with h9 | h9
        · exact hok j h9
        · obtain rfl : j = i := by omega
          rw [hm0]
          exact ⟨by omega, by omega, by omega, all_of_getD fun j hj => hkc j (by omega)⟩
    · rename_i h3
      have h3 : ¬ (i : Int) < l.list.length := of_decide_eq_false h3
      refine Out.mk (hQ _ _ ?_)
      rw [decide_eq_true ⟨⟨by omega, by omega⟩, ⟨by omega, by omega⟩, fun k hk => hok k (by omega)⟩]
      repeat' first | (with_reducible first | refine wkI ?_ | exact ⟨⟩ | refine wkB (fun _ => ?_) fun _ => ?_ | refine wkT (fun _ => ?_) ?_ | refine wkS ?_) | ((with_reducible refine wkC ?_ ?_); exact CEq.refl _) | ((with_reducible fail_if_success first | constructor | show False); conv => whnf)
end
end Lk.S05
namespace Lk.S05
open Go Lk Lk.C
theorem ceq_nil {a b : Nat} {f g : Nat → Nat → Cell} : CEq (.sl a 0 f) (.sl b 0 g) := ⟨_, _, rfl, fun h => absurd h (Nat.lt_irrefl 0)⟩
theorem IsL.cost {l : List Ln} {f : Nat → Nat → Cell} {k : Nat} {x : Cell} {cs : List Int} (h : IsL 3 lnE l f) (hx : CEq x (slL 1 intE cs)) : IsL 3 lnE (l.set k ⟨(l.getD k default).weight, (l.getD k default).deficit, cs⟩) (updC f k 2 x) := fun i hi j hj => by
  rw [List.length_set] at hi
  rw [updC_at, setL_getD hi]
  by_cases e : i = k
  · subst e
    rw [if_pos rfl]
    rcases (show j = 0 ∨ j = 1 ∨ j = 2 by omega) with rfl | rfl | rfl
    · rw [if_neg (show ¬ (i = i ∧ 0 = 2) from fun x => absurd x.2 (by decide))]; exact h i hi 0 (by decide)
    · rw [if_neg (show ¬ (i = i ∧ 1 = 2) from fun x => absurd x.2 (by decide))]; exact h i hi 1 (by decide)
    · rw [if_pos (show i = i ∧ 2 = 2 from ⟨rfl, rfl⟩)]; exact hx
  · rw [if_neg (show ¬ (i = k ∧ j = 2) from fun x => e x.1), if_neg e]; exact h i hi j hj
theorem IsL.def {l : List Ln} {f : Nat → Nat → Cell} {k : Nat} {d : Int} (h : IsL 3 lnE l f) : IsL 3 lnE (l.set k ⟨(l.getD k default).weight, d, (l.getD k default).costs⟩) (updC f k 1 (.int .i64 d)) := fun i hi j hj => by
  rw [List.length_set] at hi
  rw [updC_at, setL_getD hi]
  by_cases e : i = k
  · subst e
    rw [if_pos rfl]
    rcases (show j = 0 ∨ j = 1 ∨ j = 2 by omega) with rfl | rfl | rfl
    · rw [if_neg (show ¬ (i = i ∧ 0 = 1) from fun x => absurd x.2 (by decide))]; exact h i hi 0 (by decide)
    · rw [if_pos (show i = i ∧ 1 = 1 from ⟨rfl, rfl⟩)]; exact CEq.refl _
    · rw [if_neg (show ¬ (i = i ∧ 2 = 1) from fun x => absurd x.2 (by decide))]; exact h i hi 2 (by decide)
  · rw [if_neg (show ¬ (i = k ∧ j = 1) from fun x => e x.1), if_neg e]; exact h i hi j hj
section
variable {P : Program} {F : Nat → Nat}
theorem sl_IndexFunc_lanes_Lane_ok {P : Program} {F : Nat → Nat} (hm : P.follows .mixedOrders = true) (hk : sl_IndexFunc_lanes_Lane_k P F) (n : Nat) (f : Nat → Nat → Cell) (hn : n ≤ 1000000) (g : Nat) (p : Nat → Bool)
    (hg : ∀ i, i < n → FnOk P g [.many 3 (f i)] [.one (.im (.bool (p i)))]) : FnOk P (F 144) [.one (.sl 3 n f), .one (.fn g)] [.one (.im (.int .i64 (if fstN p n < n then (fstN p n : Int) else -1)))] := by
  refine fnOk hm hk ?_
  repeat' first | (with_reducible first | refine wkI ?_ | exact ⟨⟩ | refine wkB (fun _ => ?_) fun _ => ?_ | refine wkT (fun _ => ?_) ?_ | refine wkF ?_) | ((with_reducible fail_if_success first | constructor | show False); conv => whnf)
  refine LoopVC.of (X := {i : Nat // i ≤ n ∧ ∀ j, j < i → p j = false}) (fun i => stL [(0, .c (.sl 3 n f)), (1, .c (.fn g)), (7, .c (.int .i64 n)), (8, .c (.int .i64 i.1))] [])
    (fun i => n - i.1) ⟨0, Nat.zero_le _, fun j hj => by omega⟩ (Le.of ⟨CEq.refl _, rfl, rfl, rfl, trivial⟩ trivial) ?_
  rintro Q hQ ⟨i, hi, hp⟩
  repeat' first | (with_reducible first | refine wkI ?_ | exact ⟨⟩ | refine wkB (fun _ => ?_) fun _ => ?_ | refine wkT (fun _ => ?_) ?_ | refine wkF ?_) | ((with_reducible fail_if_success first | constructor | show False); conv => whnf)
  · rename_i h
    simp only [decide_eq_true_eq] at h
    refine Need.mk (by (simp only [decide_eq_true_eq, decide_eq_false_iff_not, Bool.or_eq_true, Bool.and_eq_true, Bool.or_eq_false_iff, Int.toNat_natCast, addN_eq, cond_false, cond_true, rng] at *; omega)) ?_
    repeat' first | (with_reducible first | refine wkI ?_ | exact ⟨⟩ | refine wkB (fun _ => ?_) fun _ => ?_ | refine wkT (fun _ => ?_) ?_ | refine wkF ?_) | ((with_reducible fail_if_success first | constructor | show False); conv => whnf)
    refine CallVC.mk' (fun _ => hg i (by omega)) (fun _ => .cons ((mC3 (by rfl))) .nil) ?_
    repeat' first | (with_reducible first | refine wkI ?_ | exact ⟨⟩ | refine wkB (fun _ => ?_) fun _ => ?_ | refine wkT (fun _ => ?_) ?_ | refine wkF ?_) | ((with_reducible fail_if_success first | constructor | show False); conv => whnf)
    · rename_i h2
      refine Out.mk (hQ _ _ ?_)
      repeat' first | (with_reducible first | refine wkI ?_ | exact ⟨⟩ | refine wkB (fun _ => ?_) fun _ => ?_ | refine wkT (fun _ => ?_) ?_ | refine wkF ?_) | ((with_reducible fail_if_success first | constructor | show False); conv => whnf)
      have he : fstN p n = i := fstN_eq hi hp (fun _ => h2)
      refine Need.mk (eI (by rw [he, if_pos (by omega)])) ?_
      repeat' first | (with_reducible first | refine wkI ?_ | exact ⟨⟩ | refine wkB (fun _ => ?_) fun _ => ?_ | refine wkT (fun _ => ?_) ?_ | refine wkF ?_) | ((with_reducible fail_if_success first | constructor | show False); conv => whnf)
    · rename_i h2
      refine Need.mk (by (simp only [decide_eq_true_eq, decide_eq_false_iff_not, Bool.or_eq_true, Bool.and_eq_true, Bool.or_eq_false_iff, Int.toNat_natCast, addN_eq, cond_false, cond_true, rng] at *; omega)) ?_
      repeat' first | (with_reducible first | refine wkI ?_ | exact ⟨⟩ | refine wkB (fun _ => ?_) fun _ => ?_ | refine wkT (fun _ => ?_) ?_ | refine wkF ?_) | ((with_reducible fail_if_success first | constructor | show False); conv => whnf)
      refine LoopEnd.mk ⟨⟨i + 1, by omega, fun j hj => ?_⟩, by show n - (i + 1) < n - i; omega, Le.of ⟨CEq.refl _, rfl, rfl, cI (by simp), trivial⟩ trivial⟩
      rcases Nat.lt_or_ge j i with h | h
      · exact hp j h
      · obtain rfl : j = i := by omega
        exact h2
  · rename_i h
    simp only [decide_eq_false_iff_not] at h
    refine Out.mk (hQ _ _ ?_)
    repeat' first | (with_reducible first | refine wkI ?_ | exact ⟨⟩ | refine wkB (fun _ => ?_) fun _ => ?_ | refine wkT (fun _ => ?_) ?_ | refine wkF ?_) | ((with_reducible fail_if_success first | constructor | show False); conv => whnf)
    have he : fstN p n = n := fstN_eq (Nat.le_refl _) (fun j hj => hp j (by omega)) (fun h => by omega)
    refine Need.mk (eI (by rw [he, if_neg (by omega)])) ?_
    repeat' first | (with_reducible first | refine wkI ?_ | exact ⟨⟩ | refine wkB (fun _ => ?_) fun _ => ?_ | refine wkT (fun _ => ?_) ?_ | refine wkF ?_) | ((with_reducible fail_if_success first | constructor | show False); conv => whnf)
theorem sl_ContainsFunc_lanes_Lane_ok {P : Program} {F : Nat → Nat} (hm : P.follows .mixedOrders = true) (hk : sl_IndexFunc_lanes_Lane_k P F) (hk' : sl_ContainsFunc_lanes_Lane_k P F) (n : Nat) (f : Nat → Nat → Cell) (hn : n ≤ 1000000) (g : Nat) (p : Nat → Bool)
    (hg : ∀ i, i < n → FnOk P g [.many 3 (f i)] [.one (.im (.bool (p i)))]) : FnOk P (F 94) [.one (.sl 3 n f), .one (.fn g)] [.one (.im (.bool (decide (fstN p n < n))))] := by
  refine fnOk hm hk' ?_
  repeat' first | (with_reducible first | refine wkI ?_ | exact ⟨⟩ | refine wkB (fun _ => ?_) fun _ => ?_ | refine wkT (fun _ => ?_) ?_ | refine wkF ?_) | ((with_reducible fail_if_success first | constructor | show False); conv => whnf)
  refine CallVC.mk' (fun _ => sl_IndexFunc_lanes_Lane_ok hm hk n f hn g p hg) (fun _ => .cons (.one (CEq.refl _)) (.cons (.one (CEq.refl _)) .nil)) ?_
  repeat' first | (with_reducible first | refine wkI ?_ | exact ⟨⟩ | refine wkB (fun _ => ?_) fun _ => ?_ | refine wkT (fun _ => ?_) ?_ | refine wkF ?_) | ((with_reducible fail_if_success first | constructor | show False); conv => whnf)
  refine Need.mk (eB ?_) ?_
  · by_cases h : fstN p n < n
    · simp [h]
    · simp [h]
  · repeat' first | (with_reducible first | refine wkI ?_ | exact ⟨⟩ | refine wkB (fun _ => ?_) fun _ => ?_ | refine wkT (fun _ => ?_) ?_ | refine wkF ?_) | ((with_reducible fail_if_success first | constructor | show False); conv => whnf)
theorem sl_Clone_lanes_Lane_ok {P : Program} {F : Nat → Nat} (hm : P.follows .mixedOrders = true) (hk : sl_Clone_lanes_Lane_k P F) (n : Nat) (f : Nat → Nat → Cell) (hn : n ≤ 1000000) : FnOk P (F 77) [.one (.sl 3 n f)] [.one (.ow 3 n f)] := by
  refine fnOk hm hk ?_
  repeat' first | (with_reducible first | refine wkI ?_ | exact ⟨⟩ | refine wkB (fun _ => ?_) fun _ => ?_ | refine wkT (fun _ => ?_) ?_ | (refine Need.mk ?_ ?_; (first | assumption | omega | with_reducible exact CEq.refl _ | exact ⟨rfl, rfl⟩ | exact Nat.zero_add _ | exact (Nat.zero_add _).symm | exact ⟨rfl, Nat.le_refl _, (Nat.zero_add _).symm⟩ | exact appC_zero))) | ((with_reducible fail_if_success first | constructor | show False); conv => whnf)
theorem sl_Clone_int_ok {P : Program} {F : Nat → Nat} (hm : P.follows .mixedOrders = true) (hk : sl_Clone_int_k P F) (n : Nat) (f : Nat → Nat → Cell) (hn : n ≤ 1000000) : FnOk P (F 78) [.one (.sl 1 n f)] [.one (.ow 1 n f)] := by
  refine fnOk hm hk ?_
  repeat' first | (with_reducible first | refine wkI ?_ | exact ⟨⟩ | refine wkB (fun _ => ?_) fun _ => ?_ | refine wkT (fun _ => ?_) ?_ | (refine Need.mk ?_ ?_; (first | assumption | omega | with_reducible exact CEq.refl _ | exact ⟨rfl, rfl⟩ | exact Nat.zero_add _ | exact (Nat.zero_add _).symm | exact ⟨rfl, Nat.le_refl _, (Nat.zero_add _).symm⟩ | exact appC_zero))) | ((with_reducible fail_if_success first | constructor | show False); conv => whnf)
def wtB (l : Ls) (i : Nat) : Bool := decide (0 < (l.list.getD i default).costs.length)
def waits (l : Ls) : Prop := ∃ x ∈ l.list, x.costs ≠ []
instance (l : Ls) : Decidable (waits l) := by unfold waits; infer_instance
theorem waits_fst (l : Ls) : fstN (wtB l) l.list.length < l.list.length ↔ waits l := by
  rw [fstN_lt_iff]
  unfold wtB waits
  constructor
  · rintro ⟨i, hi, h⟩
    exact ⟨_, getD_mem hi, fun e => by rw [e] at h; simp at h⟩
  · rintro ⟨x, hx, h⟩
    obtain ⟨i, hi, rfl⟩ := List.mem_iff_getElem.1 hx
    refine ⟨i, hi, decide_eq_true ?_⟩
    rw [getD_eq hi]
    cases hc : l.list[i].costs with
    | nil => exact absurd hc h
    | cons => simp
structure KLn (P : Program) (F : Nat → Nat) : Prop where
  m : P.follows .mixedOrders = true
  new : lanes_New_k P F
  right : lanes_Right_k P F
  push : lanes_Push_k P F
  next : lanes_Next_k P F
  waits : lanes_waits_k P F
  waits1 : lanes_waits_1_k P F
  idx : sl_IndexFunc_lanes_Lane_k P F
  cont : sl_ContainsFunc_lanes_Lane_k P F
  cloneL : sl_Clone_lanes_Lane_k P F
  cloneI : sl_Clone_int_k P F
theorem waits1_ok (K : KLn P F) (x : Ln) (h : x.costs.length ≤ 1000000) : FnOk P (F 95) [.many 3 (lnE x)] [.one (.im (.bool (decide (0 < x.costs.length))))] := by
  refine fnOk K.m K.waits1 ?_
  repeat' first | (with_reducible first | refine wkI ?_ | exact ⟨⟩ | refine wkB (fun _ => ?_) fun _ => ?_ | refine wkT (fun _ => ?_) ?_ | refine wkS ?_) | ((with_reducible refine wkC ?_ ?_); exact CEq.refl _) | ((with_reducible fail_if_success first | constructor | show False); conv => whnf)
  refine Need.mk (eB (by simp)) ?_
  repeat' first | (with_reducible first | refine wkI ?_ | exact ⟨⟩ | refine wkB (fun _ => ?_) fun _ => ?_ | refine wkT (fun _ => ?_) ?_ | refine wkS ?_) | ((with_reducible refine wkC ?_ ?_); exact CEq.refl _) | ((with_reducible fail_if_success first | constructor | show False); conv => whnf)
theorem waits_ok (K : KLn P F) (l : Ls) (T : Tiny l) : FnOk P (F 93) [.many 3 (lsE l)] [.one (.im (.bool (decide (waits l))))] := by
  refine fnOk K.m K.waits ?_
  repeat' first | (with_reducible first | refine wkI ?_ | exact ⟨⟩ | refine wkB (fun _ => ?_) fun _ => ?_ | refine wkT (fun _ => ?_) ?_ | refine wkS ?_) | ((with_reducible refine wkC ?_ ?_); exact CEq.refl _) | ((with_reducible fail_if_success first | constructor | show False); conv => whnf)
  refine CallVC.mk' (fun _ => sl_ContainsFunc_lanes_Lane_ok K.m K.idx K.cont l.list.length (fun i j => lnE (l.list.getD i default) j) (by have := T.n; omega) (F 95) (wtB l) (fun i hi => waits1_ok K _ (T.c _ (getD_mem hi)))) (fun _ => .cons (.one (CEq.refl _)) (.cons (.one (CEq.refl _)) .nil)) ?_
  repeat' first | (with_reducible first | refine wkI ?_ | exact ⟨⟩ | refine wkB (fun _ => ?_) fun _ => ?_ | refine wkT (fun _ => ?_) ?_ | refine wkS ?_) | ((with_reducible refine wkC ?_ ?_); exact CEq.refl _) | ((with_reducible fail_if_success first | constructor | show False); conv => whnf)
  refine Need.mk (eB (by rw [Bool.eq_iff_iff, decide_eq_true_eq, decide_eq_true_eq]; exact waits_fst l)) ?_
  repeat' first | (with_reducible first | refine wkI ?_ | exact ⟨⟩ | refine wkB (fun _ => ?_) fun _ => ?_ | refine wkT (fun _ => ?_) ?_ | refine wkS ?_) | ((with_reducible refine wkC ?_ ?_); exact CEq.refl _) | ((with_reducible fail_if_success first | constructor | show False); conv => whnf)
def newOk (w : List Int) : Prop := (1 ≤ w.length ∧ w.length ≤ 6) ∧ ∀ x ∈ w, 1 ≤ x ∧ x ≤ 8
instance (w : List Int) : Decidable (newOk w) := by unfold newOk; infer_instance
def newLn (x : Int) : Ln := ⟨x, 0, []⟩
def newL (w : List Int) : Ls := if newOk w then ⟨w.map newLn, 0, false⟩ else ⟨[], 0, false⟩
def newE (w : List Int) : Int := if newOk w then 0 else 1
theorem new_ok (K : KLn P F) (w : List Int) (hw : w.length ≤ 1000000) : FnOk P (F 75) [.one (slL 1 intE w)] [.many 3 (fun j => .im (lsE (newL w) j)), .one (.im (.int .i64 (newE w)))] := by
  refine fnOk K.m K.new ?_
  repeat' first | (with_reducible first | refine wkI ?_ | exact ⟨⟩ | refine wkB (fun _ => ?_) fun _ => ?_ | refine wkT (fun _ => ?_) ?_ | refine wkS ?_) | ((with_reducible refine wkC ?_ ?_); exact CEq.refl _) | ((with_reducible fail_if_success first | constructor | show False); conv => whnf)
  · rename_i h
    have hn : ¬ newOk w := fun x => by simp only [Bool.or_eq_true, decide_eq_true_eq] at h; have := x.1; omega
    rw [show newL w = ⟨[], 0, false⟩ from if_neg hn, show newE w = 1 from if_neg hn]
    repeat' first | (with_reducible first | refine wkI ?_ | exact ⟨⟩ | refine wkB (fun _ => ?_) fun _ => ?_ | refine wkT (fun _ => ?_) ?_ | refine wkS ?_) | ((with_reducible refine wkC ?_ ?_); exact CEq.refl _) | ((with_reducible fail_if_success first | constructor | show False); conv => whnf)
    refine Need.mk ceq_nil ?_
    repeat' first | (with_reducible first | refine wkI ?_ | exact ⟨⟩ | refine wkB (fun _ => ?_) fun _ => ?_ | refine wkT (fun _ => ?_) ?_ | refine wkS ?_) | ((with_reducible refine wkC ?_ ?_); exact CEq.refl _) | ((with_reducible fail_if_success first | constructor | show False); conv => whnf)
  · rename_i h
    simp only [Bool.or_eq_false_iff, decide_eq_false_iff_not] at h
    refine LoopVC.inv (fun i : Nat => i ≤ w.length ∧ ∀ k, k < i → 1 ≤ w.getD k default ∧ w.getD k default ≤ 8) (fun i => stL [(2, .va 2 0 0), (4, .os 18 0 3 0 w.length), (19, .c (slL 1 intE w)), (20, .c (.int .i64 w.length)), (21, .c (.int .i64 i))]
      [(2, vE [.nil 3, .c (.int .i64 0), .c (.bool false)]), (18, ⟨3, w.length, .dat fun r j => lnE (if r < i then newLn (w.getD r default) else default) j, false, true⟩)]) (fun i => w.length - i) 0 ⟨Nat.zero_le _, fun k hk => by omega⟩ ?_ ?_
    · (refine Le.of ?_ ?_ <;> repeat' first | exact trivial | exact CEq.refl _ | exact rfl | exact cI (by push_cast; first | rfl | omega) | exact SubE.dat fun _ _ _ _ => CEq.refl _ | refine SubE.varN ?_ | refine Exists.intro _ (And.intro rfl ?_) | refine And.intro ?_ ?_)
      refine SubE.dat fun r hr j hj => ?_
      have hj : j < 3 := hj
      rw [if_neg (Nat.not_lt_zero r)]
      rcases (show j = 0 ∨ j = 1 ∨ j = 2 by omega) with rfl | rfl | rfl
      · exact CEq.refl _
      · exact CEq.refl _
      · exact ceq_nil
    rintro Q hQ i ⟨hi, hok⟩
    repeat' first | (with_reducible first | refine wkI ?_ | exact ⟨⟩ | refine wkB (fun _ => ?_) fun _ => ?_ | refine wkT (fun _ => ?_) ?_ | refine wkS ?_) | ((with_reducible refine wkC ?_ ?_); exact CEq.refl _) | ((with_reducible fail_if_success first | constructor | show False); conv => whnf)
    · rename_i h3 h4
      have h3 : (i : Int) < w.length := of_decide_eq_true h3
      rw [Int.toNat_natCast] at h4
      have hn : ¬ newOk w := fun x => by
        have := x.2 _ (getD_mem (show i < w.length by omega))
        simp only [Bool.or_eq_true, decide_eq_true_eq] at h4; omega
      refine Out.mk (hQ _ _ ?_)
      rw [show newL w = ⟨[], 0, false⟩ from if_neg hn, show newE w = 1 from if_neg hn]
      repeat' first | (with_reducible first | refine wkI ?_ | exact ⟨⟩ | refine wkB (fun _ => ?_) fun _ => ?_ | refine wkT (fun _ => ?_) ?_ | refine wkS ?_) | ((with_reducible refine wkC ?_ ?_); exact CEq.refl _) | ((with_reducible fail_if_success first | constructor | show False); conv => whnf)
      refine Need.mk ceq_nil ?_
      repeat' first | (with_reducible first | refine wkI ?_ | exact ⟨⟩ | refine wkB (fun _ => ?_) fun _ => ?_ | refine wkT (fun _ => ?_) ?_ | refine wkS ?_) | ((with_reducible refine wkC ?_ ?_); exact CEq.refl _) | ((with_reducible fail_if_success first | constructor | show False); conv => whnf)
    · rename_i h3 h4
      have h3 : (i : Int) < w.length := of_decide_eq_true h3
      rw [Int.toNat_natCast] at h4
      simp only [Bool.or_eq_false_iff, decide_eq_false_iff_not] at h4
      refine LoopEnd.mk ⟨i + 1, ⟨by omega, fun k hk => ?_⟩, by omega, ?_⟩
      · rcases Nat.lt_or_ge k i with h9 | h9
        · exact hok k h9
        · obtain rfl : k = i := by omega
          omega
      (refine Le.of ?_ ?_ <;> repeat' first | exact trivial | exact CEq.refl _ | exact rfl | exact cI (by push_cast; first | rfl | omega) | exact SubE.dat fun _ _ _ _ => CEq.refl _ | refine SubE.varN ?_ | refine Exists.intro _ (And.intro rfl ?_) | refine And.intro ?_ ?_)
      refine SubE.dat fun r hr j hj => ?_
      have hj : j < 3 := hj
      rw [updC_at, addN_eq, Int.toNat_natCast, Nat.zero_add]
      by_cases e : r = i
      · subst e
        rw [if_pos (show r < r + 1 by omega)]
        rcases (show j = 0 ∨ j = 1 ∨ j = 2 by omega) with rfl | rfl | rfl
        · rw [if_pos (show r = r ∧ 0 = 0 from ⟨rfl, rfl⟩)]; exact CEq.refl _
        · rw [if_neg (show ¬ (r = r ∧ 1 = 0) from fun x => absurd x.2 (by decide)), if_neg (show ¬ r < r by omega)]; exact CEq.refl _
        · rw [if_neg (show ¬ (r = r ∧ 2 = 0) from fun x => absurd x.2 (by decide)), if_neg (show ¬ r < r by omega)]; exact CEq.refl _
      · rw [if_neg (show ¬ (r = i ∧ j = 0) from fun x => e x.1)]
        by_cases e2 : r < i
        · rw [if_pos e2, if_pos (show r < i + 1 by omega)]; exact CEq.refl _
        · rw [if_neg e2, if_neg (show ¬ r < i + 1 by omega)]; exact CEq.refl _
    · rename_i h3
      have h3 : ¬ (i : Int) < w.length := of_decide_eq_false h3
      obtain rfl : i = w.length := by omega
      have hn : newOk w := ⟨by omega, all_of_getD hok⟩
      refine Out.mk (hQ _ _ ?_)
      rw [show newL w = ⟨w.map newLn, 0, false⟩ from if_pos hn, show newE w = 0 from if_pos hn]
      repeat' first | (with_reducible first | refine wkI ?_ | exact ⟨⟩ | refine wkB (fun _ => ?_) fun _ => ?_ | refine wkT (fun _ => ?_) ?_ | refine wkS ?_) | ((with_reducible refine wkC ?_ ?_); exact CEq.refl _) | ((with_reducible fail_if_success first | constructor | show False); conv => whnf)
      refine Need.mk (CEq.list (by simp) fun k hk j hj => ?_) ?_
      · have hk : k < w.length := by simpa using hk
        show CEq (lnE (if addN 0 k < w.length then newLn (w.getD (addN 0 k) default) else default) j) _
        rw [addN_eq, Nat.zero_add, if_pos hk]
        have e : (w.map newLn).getD k default = newLn (w.getD k default) := by
          rw [getD_eq (by simpa using hk), getD_eq hk]; simp
        rw [e]; exact CEq.refl _
      repeat' first | (with_reducible first | refine wkI ?_ | exact ⟨⟩ | refine wkB (fun _ => ?_) fun _ => ?_ | refine wkT (fun _ => ?_) ?_ | refine wkS ?_) | ((with_reducible refine wkC ?_ ?_); exact CEq.refl _) | ((with_reducible fail_if_success first | constructor | show False); conv => whnf)
def pushOk (l : Ls) (k c : Int) : Prop := right l ∧ (0 ≤ k ∧ k < l.list.length) ∧ 1 ≤ c ∧ c ≤ 8
instance (l : Ls) (k c : Int) : Decidable (pushOk l k c) := by unfold pushOk; infer_instance
def pushE (l : Ls) (k c : Int) : Int := if pushOk l k c then (if (l.list.getD k.toNat default).costs.length ≥ 200 then 7 else 0) else 1
def pushX (l : Ls) (k : Nat) (c : Int) : Ls := ⟨l.list.set k ⟨(l.list.getD k default).weight, (l.list.getD k default).deficit, (l.list.getD k default).costs ++ [c]⟩, l.at_, l.given⟩
def pushL (l : Ls) (k c : Int) : Ls := if pushE l k c = 0 then pushX l k.toNat c else l
theorem push_ok (K : KLn P F) (l : Ls) (k c : Int) (T : Tiny l) : FnOk P (F 79) [.many 3 (lsE l), .one (.int .i64 k), .one (.int .i64 c)] [.many 3 (fun j => .im (lsE (pushL l k c) j)), .one (.im (.int .i64 (pushE l k c)))] := by
  refine fnOk K.m K.push ?_
  repeat' first | (with_reducible first | refine wkI ?_ | exact ⟨⟩ | refine wkB (fun _ => ?_) fun _ => ?_ | refine wkT (fun _ => ?_) ?_ | refine wkS ?_) | ((with_reducible refine wkC ?_ ?_); exact CEq.refl _) | ((with_reducible fail_if_success first | constructor | show False); conv => whnf)
  refine CallVC.mk' (fun _ => right_ok K.m K.right l T) (fun _ => .cons ((mC3 (by rfl))) .nil) ?_
  have hn := T.n
  repeat' first | (with_reducible first | refine wkI ?_ | exact ⟨⟩ | refine wkB (fun _ => ?_) fun _ => ?_ | refine wkT (fun _ => ?_) ?_ | refine wkS ?_) | ((with_reducible refine wkC ?_ ?_); exact CEq.refl _) | ((with_reducible fail_if_success first | constructor | show False); conv => whnf)
  · rename_i h
    have hp : ¬ pushOk l k c := fun x => by
      obtain ⟨a, b, d, e⟩ := x
      rw [decide_eq_true a] at h
      simp only [Bool.or_eq_true, decide_eq_true_eq, Bool.not_true, Bool.false_eq_true, false_or] at h; omega
    have he : pushE l k c = 1 := if_neg hp
    rw [show pushL l k c = l from if_neg (by rw [he]; decide), he]
    repeat' first | (with_reducible first | refine wkI ?_ | exact ⟨⟩ | refine wkB (fun _ => ?_) fun _ => ?_ | refine wkT (fun _ => ?_) ?_ | refine wkS ?_) | ((with_reducible refine wkC ?_ ?_); exact CEq.refl _) | ((with_reducible fail_if_success first | constructor | show False); conv => whnf)
  all_goals
    rename_i h h2
    have hp : pushOk l k c := by
      simp only [Bool.or_eq_false_iff, decide_eq_false_iff_not, Bool.not_eq_false', decide_eq_true_eq] at h
      exact ⟨h.1.1.1.1, ⟨by omega, by omega⟩, by omega, by omega⟩
  · have h2 : (200 : Int) ≤ (l.list.getD k.toNat default).costs.length := of_decide_eq_true h2
    have he : pushE l k c = 7 := by unfold pushE; rw [if_pos hp, if_pos (by omega)]
    rw [show pushL l k c = l from if_neg (by rw [he]; decide), he]
    repeat' first | (with_reducible first | refine wkI ?_ | exact ⟨⟩ | refine wkB (fun _ => ?_) fun _ => ?_ | refine wkT (fun _ => ?_) ?_ | refine wkS ?_) | ((with_reducible refine wkC ?_ ?_); exact CEq.refl _) | ((with_reducible fail_if_success first | constructor | show False); conv => whnf)
  · have h2 : ¬ (200 : Int) ≤ (l.list.getD k.toNat default).costs.length := of_decide_eq_false h2
    have he : pushE l k c = 0 := by unfold pushE; rw [if_pos hp, if_neg (by omega)]
    rw [show pushL l k c = pushX l k.toNat c from if_pos he, he]
    obtain ⟨hr, ⟨k1, k2⟩, c1, c2⟩ := (show right l ∧ (0 ≤ k ∧ k < l.list.length) ∧ 1 ≤ c ∧ c ≤ 8 from hp)
    obtain ⟨n, rfl⟩ : ∃ n : Nat, k = n := ⟨k.toNat, by omega⟩
    rw [Int.toNat_natCast] at *
    refine CallVC.mk' (fun _ => sl_Clone_lanes_Lane_ok K.m K.cloneL l.list.length (fun i j => lnE (l.list.getD i default) j) (by omega)) (fun _ => .cons (.one (CEq.refl _)) .nil) ?_
    repeat' first | (with_reducible first | refine wkI ?_ | exact ⟨⟩ | refine wkB (fun _ => ?_) fun _ => ?_ | refine wkT (fun _ => ?_) ?_ | refine wkS ?_) | ((with_reducible refine wkC ?_ ?_); exact CEq.refl _) | ((with_reducible fail_if_success first | constructor | show False); conv => whnf)
    rw [Int.toNat_natCast]
    refine CallVC.mk' (fun _ => sl_Clone_int_ok K.m K.cloneI (l.list.getD n default).costs.length (fun i j => intE ((l.list.getD n default).costs.getD i default) j) (by omega)) (fun _ => .cons (.one ?_) .nil) ?_
    · exact CEq.refl _
    repeat' first | (with_reducible first | refine wkI ?_ | exact ⟨⟩ | refine wkB (fun _ => ?_) fun _ => ?_ | refine wkT (fun _ => ?_) ?_ | refine wkS ?_) | ((with_reducible refine wkC ?_ ?_); exact CEq.refl _) | ((with_reducible fail_if_success first | constructor | show False); conv => whnf)
    have hcs : CEq (Cell.sl 1 ((l.list.getD n default).costs.length + 1) fun i j => appC (fun i j => intE ((l.list.getD n default).costs.getD i default) j) (l.list.getD n default).costs.length (fun i j => rowsL [(0, fun i => match i with | 0 => Cell.int IntKind.i64 c | i + 1 => Cell.bool false)] (fun x j => cells [Cst.int IntKind.i64 0] j) (addN 0 i) j) (addN 0 i) j) (slL 1 intE ((l.list.getD n default).costs ++ [c])) :=
      (IsL.refl.app rfl (IsL.one fun j hj => by (obtain rfl : j = 0 := (by omega)); exact CEq.refl _)).off.ceq (by simp)
    refine Need.mk ((IsL.cost (l := l.list) (k := n) IsL.refl hcs).off.ceq (by simp)) ?_
    repeat' first | (with_reducible first | refine wkI ?_ | exact ⟨⟩ | refine wkB (fun _ => ?_) fun _ => ?_ | refine wkT (fun _ => ?_) ?_ | refine wkS ?_) | ((with_reducible refine wkC ?_ ?_); exact CEq.refl _) | ((with_reducible fail_if_success first | constructor | show False); conv => whnf)
end
end Lk.S05
namespace Lk.S05
open Go Lk
def pos (l : Ls) : Nat := l.at_.toNat
def cur (l : Ls) : Ln := l.list.getD (pos l) default
def gv (l : Ls) : Int := if l.given then (cur l).deficit else (cur l).deficit + (cur l).weight * 4
def hd0 (l : Ls) : Int := (cur l).costs.getD 0 default
def adv (l : Ls) (d : Int) : Ls := ⟨l.list.set (pos l) ⟨(cur l).weight, d, (cur l).costs⟩, (l.at_ + 1) % l.list.length, false⟩
def srv (l : Ls) : Ls := ⟨l.list.set (pos l) ⟨(cur l).weight, if (cur l).costs.drop 1 = [] then 0 else gv l - hd0 l, (cur l).costs.drop 1⟩, l.at_, true⟩
def turn (l : Ls) : Ls × Option Int := if (cur l).costs = [] then (adv l 0, none) else if gv l < hd0 l then (adv l (gv l), none) else (srv l, some (hd0 l))
variable {l : Ls}
theorem right.pos (h : right l) : pos l < l.list.length ∧ ((pos l : Nat) : Int) = l.at_ := by
  have := h.2.1; unfold S05.pos; omega
theorem right.cur (h : right l) : okLn (mst l (S05.pos l)) (cur l) := h.2.2 _ h.pos.1
theorem gv_bd (h : right l) : 0 ≤ gv l ∧ gv l ≤ 39 := by
  have hc := h.cur
  unfold gv
  unfold mst at hc
  rw [h.pos.2] at hc
  obtain ⟨⟨w1, w2⟩, ⟨d1, d2⟩, -⟩ := hc
  cases hg : l.given with
  | true => rw [hg] at d2; simp at d2 ⊢; omega
  | false => rw [hg] at d2; simp at d2 ⊢; omega
theorem hd_bd (h : right l) (hn : (cur l).costs ≠ []) : 1 ≤ hd0 l ∧ hd0 l ≤ 8 := by
  refine h.cur.2.2.2 _ (getD_mem ?_)
  cases hc : (cur l).costs with
  | nil => exact absurd hc hn
  | cons => simp
theorem adv_len (d : Int) : (adv l d).list.length = l.list.length := List.length_set ..
theorem adv_at {d : Int} {i : Nat} (hi : i < l.list.length) : (adv l d).list.getD i default = if i = pos l then ⟨(cur l).weight, d, (cur l).costs⟩ else l.list.getD i default := setL_getD hi
theorem srv_len : (srv l).list.length = l.list.length := List.length_set ..
theorem srv_at {i : Nat} (hi : i < l.list.length) : (srv l).list.getD i default = if i = pos l then ⟨(cur l).weight, if (cur l).costs.drop 1 = [] then 0 else gv l - hd0 l, (cur l).costs.drop 1⟩ else l.list.getD i default := setL_getD hi
theorem adv_right {d : Int} (h : right l) (h1 : 0 ≤ d) (h2 : d ≤ 7) : right (adv l d) := by
  have hp := h.pos
  obtain ⟨⟨a, b⟩, ⟨c, e⟩, f⟩ := (show right l from h)
  refine ⟨by rw [adv_len]; exact ⟨a, b⟩, ?_, fun i hi => ?_⟩
  · rw [adv_len]
    show 0 ≤ (l.at_ + 1) % (l.list.length : Int) ∧ (l.at_ + 1) % (l.list.length : Int) < _
    exact ⟨Int.emod_nonneg _ (by omega), Int.emod_lt_of_pos _ (by omega)⟩
  · rw [adv_len] at hi
    have hm : mst (adv l d) i = 7 := if_neg fun x => absurd x.2 (by show ¬ (false = true); decide)
    rw [hm, adv_at hi]
    by_cases e2 : i = S05.pos l
    · rw [if_pos e2]
      have := h.cur
      exact ⟨this.1, ⟨h1, h2⟩, this.2.2⟩
    · rw [if_neg e2]
      have := f i hi
      rw [show mst l i = 7 from if_neg fun x => e2 (by omega)] at this
      exact this
theorem srv_right (h : right l) (hn : (cur l).costs ≠ []) (hs : ¬ gv l < hd0 l) : right (srv l) := by
  have hp := h.pos
  have hg := gv_bd h
  have hh := hd_bd h hn
  obtain ⟨⟨a, b⟩, ⟨c, e⟩, f⟩ := (show right l from h)
  refine ⟨by rw [srv_len]; exact ⟨a, b⟩, by rw [srv_len]; exact ⟨c, e⟩, fun i hi => ?_⟩
  rw [srv_len] at hi
  rw [srv_at hi]
  by_cases e2 : i = S05.pos l
  · have hm : mst (srv l) i = 39 := if_pos ⟨by show (i : Int) = l.at_; omega, rfl⟩
    rw [if_pos e2, hm]
    have hc := h.cur
    refine ⟨hc.1, ?_, ?_, fun c hc' => hc.2.2.2 c (List.mem_of_mem_drop hc')⟩
    · show 0 ≤ (if (cur l).costs.drop 1 = [] then (0 : Int) else gv l - hd0 l) ∧ (if (cur l).costs.drop 1 = [] then (0 : Int) else gv l - hd0 l) ≤ 39
      split <;> omega
    · show ((cur l).costs.drop 1).length ≤ 200
      rw [List.length_drop]; have := hc.2.2.1; omega
  · have hm : mst (srv l) i = 7 := if_neg fun x => e2 (by have : (i : Int) = l.at_ := x.1; omega)
    rw [if_neg e2, hm]
    have := f i hi
    rw [show mst l i = 7 from if_neg fun x => e2 (by omega)] at this
    exact this
def tgt (l : Ls) : Nat := fstN (wtB l) l.list.length
def mu (l : Ls) : Nat := (8 - (l.list.getD (tgt l) default).deficit).toNat * l.list.length + (tgt l + l.list.length - pos l) % l.list.length + (if tgt l = pos l ∧ l.given = true then l.list.length else 0)
theorem adv_tgt {d : Int} : tgt (adv l d) = tgt l := by
  unfold tgt
  rw [adv_len]
  refine fstN_congr fun i hi => ?_
  unfold wtB
  rw [adv_at hi]
  by_cases e : i = S05.pos l
  · rw [if_pos e, e]; rfl
  · rw [if_neg e]
theorem adv_waits {d : Int} (h : waits l) : waits (adv l d) := by
  rw [← waits_fst] at h ⊢
  have e := adv_tgt (l := l) (d := d)
  unfold tgt at e
  rw [e, adv_len]; exact h
theorem mod_step {j a n : Nat} (ha : a < n) (hj : j < n) (hne : j ≠ a) : (j + n - (a + 1) % n) % n + 1 = (j + n - a) % n := by
  rcases Nat.lt_or_ge (a + 1) n with h | h
  · rw [Nat.mod_eq_of_lt h]
    rcases Nat.lt_or_ge j a with h2 | h2
    · rw [Nat.mod_eq_of_lt (show j + n - (a + 1) < n by omega), Nat.mod_eq_of_lt (show j + n - a < n by omega)]; omega
    · rw [show j + n - (a + 1) = (j - a - 1) + n by omega, show j + n - a = (j - a) + n by omega, Nat.add_mod_right, Nat.add_mod_right, Nat.mod_eq_of_lt (show j - a - 1 < n by omega), Nat.mod_eq_of_lt (show j - a < n by omega)]; omega
  · have e : a + 1 = n := by omega
    rw [e, Nat.mod_self, show j + n - 0 = j + n by omega, Nat.add_mod_right, Nat.mod_eq_of_lt hj, Nat.mod_eq_of_lt (show j + n - a < n by omega)]; omega
theorem adv_pos {d : Int} (h : right l) : pos (adv l d) = (pos l + 1) % l.list.length := by
  have hp := h.pos
  show ((l.at_ + 1) % (l.list.length : Int)).toNat = _
  rw [← hp.2]
  have : ((S05.pos l : Int) + 1) % (l.list.length : Int) = (((S05.pos l + 1) % l.list.length : Nat) : Int) := by push_cast; rfl
  rw [this, Int.toNat_natCast]
theorem adv_mu {d : Int} (h : right l) (hw : waits l) (h1 : 0 ≤ d) (hc : (cur l).costs = [] ∨ (d < 8 ∧ d = gv l)) : mu (adv l d) < mu l := by
  have hp := h.pos
  have hj : tgt l < l.list.length := (waits_fst l).2 hw
  have hjc : 0 < (l.list.getD (tgt l) default).costs.length := of_decide_eq_true (fstN_at hj)
  have hgf : ¬ (tgt l = pos (adv l d) ∧ (adv l d).given = true) := fun x => absurd x.2 (by show ¬ (false = true); decide)
  unfold mu
  rw [adv_tgt, adv_len, adv_pos h, adv_pos h |>.symm, if_neg hgf, adv_pos h, adv_at hj]
  generalize hn : l.list.length = n at *
  by_cases e : tgt l = S05.pos l
  · rw [if_pos e]
    have hcne : (cur l).costs ≠ [] := fun x => by
      rw [e] at hjc
      have : (cur l).costs.length = 0 := by rw [x]; rfl
      unfold S05.cur at this; omega
    obtain ⟨hd8, hdg⟩ := hc.resolve_left hcne
    have hcd : l.list.getD (tgt l) default = cur l := by rw [e]; rfl
    rw [hcd]
    have hcok := h.cur
    have hmod : (tgt l + n - (S05.pos l + 1) % n) % n < n := Nat.mod_lt _ (by omega)
    cases hg : l.given with
    | true =>
      rw [if_pos ⟨e, rfl⟩]
      have : gv l = (cur l).deficit := if_pos hg
      have e3 : (8 - d).toNat = (8 - (cur l).deficit).toNat := by omega
      show (8 - d).toNat * n + _ + 0 < _
      rw [e3]; omega
    | false =>
      rw [if_neg (fun x => absurd x.2 (by decide))]
      have hgv : gv l = (cur l).deficit + (cur l).weight * 4 := if_neg (by rw [hg]; decide)
      have hw1 := hcok.1.1
      have e3 : (8 - d).toNat + 4 ≤ (8 - (cur l).deficit).toNat := by omega
      show (8 - d).toNat * n + _ + 0 < _
      have e4 : ((8 - d).toNat + 4) * n ≤ (8 - (cur l).deficit).toNat * n := Nat.mul_le_mul_right n e3
      rw [Nat.add_mul] at e4
      omega
  · rw [if_neg e, if_neg (fun x => e x.1)]
    have := mod_step (j := tgt l) (a := S05.pos l) (n := n) (by omega) hj e
    omega
def nextF : Nat → Ls → Ls × Int
  | 0, l => (l, 0)
  | k + 1, l => match turn l with
    | (m, none) => nextF k m
    | (m, some c) => (m, c)
def nx (l : Ls) : Ls × Int := nextF (mu l + 1) l
theorem turn_none {m : Ls} (h : right l) (hw : waits l) (ht : turn l = (m, none)) : right m ∧ waits m ∧ mu m < mu l := by
  unfold turn at ht
  split at ht
  · rename_i hc
    obtain rfl : adv l 0 = m := congrArg Prod.fst ht
    exact ⟨adv_right h (by decide) (by decide), adv_waits hw, adv_mu h hw (by decide) (.inl hc)⟩
  · rename_i hc
    split at ht
    · rename_i hd
      obtain rfl : adv l (gv l) = m := congrArg Prod.fst ht
      have hg := gv_bd h
      have hh := hd_bd h hc
      exact ⟨adv_right h (by omega) (by omega), adv_waits hw, adv_mu h hw (by omega) (.inr ⟨by omega, rfl⟩)⟩
    · cases congrArg Prod.snd ht
theorem nextF_more : ∀ {k j : Nat} {l : Ls}, right l → waits l → mu l < k → mu l < j → nextF k l = nextF j l := by
  intro k
  induction k with
  | zero => intro j l _ _ h; omega
  | succ k ih =>
    intro j l h hw hk hj
    obtain ⟨j, rfl⟩ : ∃ i, j = i + 1 := ⟨j - 1, by omega⟩
    rw [nextF, nextF]
    cases ht : turn l with | mk m o =>
    cases o with
    | some c => rfl
    | none =>
      obtain ⟨a, b, c⟩ := turn_none h hw ht
      exact ih a b (by omega) (by omega)
theorem nx_none {m : Ls} (h : right l) (hw : waits l) (ht : turn l = (m, none)) : nx l = nx m := by
  obtain ⟨a, b, c⟩ := turn_none h hw ht
  unfold nx
  rw [nextF, ht]
  exact nextF_more a b c (Nat.lt_succ_self _)
theorem nx_some {m : Ls} {c : Int} (ht : turn l = (m, some c)) : nx l = (m, c) := by
  unfold nx
  rw [nextF, ht]
theorem turn_some {m : Ls} {c : Int} (h : right l) (ht : turn l = (m, some c)) : (cur l).costs ≠ [] ∧ ¬ gv l < hd0 l ∧ m = srv l ∧ c = hd0 l ∧ right m := by
  unfold turn at ht
  split at ht
  · cases congrArg Prod.snd ht
  · rename_i hc
    split at ht
    · cases congrArg Prod.snd ht
    · rename_i hd
      obtain rfl : srv l = m := congrArg Prod.fst ht
      exact ⟨hc, hd, rfl, (Option.some.inj (congrArg Prod.snd ht)).symm, srv_right h hc hd⟩
theorem nx_ind (J : Ls → Prop) (C : Ls → Int → Prop) (hn : ∀ l m, right l → waits l → J l → turn l = (m, none) → J m) (hs : ∀ l, right l → J l → (cur l).costs ≠ [] → ¬ gv l < hd0 l → C (srv l) (hd0 l)) :
    ∀ {l : Ls}, right l → waits l → J l → right (nx l).1 ∧ C (nx l).1 (nx l).2 := by
  have key : ∀ k, ∀ l, mu l < k → right l → waits l → J l → right (nx l).1 ∧ C (nx l).1 (nx l).2 := by
    intro k
    induction k with
    | zero => intro l h; omega
    | succ k ih =>
      intro l hk h hw hj
      cases ht : turn l with | mk m o =>
      cases o with
      | some c =>
        obtain ⟨a, b, rfl, rfl, e⟩ := turn_some h ht
        rw [nx_some ht]
        exact ⟨e, hs l h hj a b⟩
      | none =>
        obtain ⟨a, b, c⟩ := turn_none h hw ht
        rw [nx_none h hw ht]
        exact ih m (by omega) a b (hn l m h hw hj ht)
  exact fun {l} => key (mu l + 1) l (Nat.lt_succ_self _)
end Lk.S05
namespace Lk.S05
open Go Lk Lk.C
def nextOk (l : Ls) : Prop := right l ∧ waits l
instance (l : Ls) : Decidable (nextOk l) := by unfold nextOk; infer_instance
def nextL (l : Ls) : Ls := if nextOk l then (nx l).1 else l
def nextA (l : Ls) : Int := if nextOk l then (nx l).1.at_ else 0
def nextC (l : Ls) : Int := if nextOk l then (nx l).2 else 0
theorem setSelf {l : List Ln} {k : Nat} : l.set k ⟨(l.getD k default).weight, (l.getD k default).deficit, (l.getD k default).costs⟩ = l := by
  refine List.ext_getElem (by simp) fun i h1 h2 => ?_
  rw [List.getElem_set]
  split
  · rename_i e; subst e
    rw [getD_eq h2]
  · rfl
def Upd (l : List Ln) (k : Nat) (X : Ln) (f : Nat → Nat → Cell) : Prop := ∀ i, i < l.length → ∀ j, j < 3 → CEq (f i j) (lnE (if i = k then X else l.getD i default) j)
theorem Upd.start {l : List Ln} {k : Nat} : Upd l k (l.getD k default) (fun r j => lnE (l.getD r default) j) := fun i hi j hj => by
  by_cases e : i = k
  · subst e; rw [if_pos rfl]; exact CEq.refl _
  · rw [if_neg e]; exact CEq.refl _
theorem Upd.d {l : List Ln} {k : Nat} {X : Ln} {f : Nat → Nat → Cell} {d : Int} (h : Upd l k X f) : Upd l k ⟨X.weight, d, X.costs⟩ (updC f k 1 (.int .i64 d)) := fun i hi j hj => by
  have hh := h i hi j hj
  rw [updC_at]
  by_cases e : i = k
  · subst e
    rw [if_pos rfl] at hh ⊢
    rcases (show j = 0 ∨ j = 1 ∨ j = 2 by omega) with rfl | rfl | rfl
    · rw [if_neg (show ¬ (i = i ∧ 0 = 1) from fun x => absurd x.2 (by decide))]; exact hh
    · rw [if_pos (show i = i ∧ 1 = 1 from ⟨rfl, rfl⟩)]; exact CEq.refl _
    · rw [if_neg (show ¬ (i = i ∧ 2 = 1) from fun x => absurd x.2 (by decide))]; exact hh
  · rw [if_neg (show ¬ (i = k ∧ j = 1) from fun x => e x.1)]
    rw [if_neg e] at hh ⊢; exact hh
theorem Upd.c {l : List Ln} {k : Nat} {X : Ln} {f : Nat → Nat → Cell} {x : Cell} {cs : List Int} (h : Upd l k X f) (hx : CEq x (slL 1 intE cs)) : Upd l k ⟨X.weight, X.deficit, cs⟩ (updC f k 2 x) := fun i hi j hj => by
  have hh := h i hi j hj
  rw [updC_at]
  by_cases e : i = k
  · subst e
    rw [if_pos rfl] at hh ⊢
    rcases (show j = 0 ∨ j = 1 ∨ j = 2 by omega) with rfl | rfl | rfl
    · rw [if_neg (show ¬ (i = i ∧ 0 = 2) from fun x => absurd x.2 (by decide))]; exact hh
    · rw [if_neg (show ¬ (i = i ∧ 1 = 2) from fun x => absurd x.2 (by decide))]; exact hh
    · rw [if_pos (show i = i ∧ 2 = 2 from ⟨rfl, rfl⟩)]; exact hx
  · rw [if_neg (show ¬ (i = k ∧ j = 2) from fun x => e x.1)]
    rw [if_neg e] at hh ⊢; exact hh
theorem Upd.isL {l : List Ln} {k : Nat} {X : Ln} {f : Nat → Nat → Cell} (h : Upd l k X f) : IsL 3 lnE (l.set k X) f := fun i hi j hj => by
  rw [List.length_set] at hi
  rw [setL_getD hi]; exact h i hi j hj
section
variable {P : Program} {F : Nat → Nat}
theorem next_ok (K : KLn P F) (l : Ls) (T : Tiny l) : FnOk P (F 86) [.many 3 (lsE l)] [.many 3 (fun j => .im (lsE (nextL l) j)), .one (.im (.int .i64 (nextA l))), .one (.im (.int .i64 (nextC l))), .one (.im (.bool (decide (nextOk l))))] := by
  refine fnOk K.m K.next ?_
  have hn := T.n
  repeat' first | (with_reducible first | refine wkI ?_ | exact ⟨⟩ | refine wkB (fun _ => ?_) fun _ => ?_ | refine wkT (fun _ => ?_) ?_ | refine wkS ?_) | ((with_reducible refine wkC ?_ ?_); exact CEq.refl _) | ((with_reducible fail_if_success first | constructor | show False); conv => whnf)
  refine CallVC.mk' (fun _ => right_ok K.m K.right l T) (fun _ => .cons ((mC3 (by rfl))) .nil) ?_
  repeat' first | (with_reducible first | refine wkI ?_ | exact ⟨⟩ | refine wkB (fun _ => ?_) fun _ => ?_ | refine wkT (fun _ => ?_) ?_ | refine wkS ?_) | ((with_reducible refine wkC ?_ ?_); exact CEq.refl _) | ((with_reducible fail_if_success first | constructor | show False); conv => whnf)
  refine CallVC.mk' (fun _ => waits_ok K l T) (fun _ => .cons ((mC3 (by rfl))) .nil) ?_
  repeat' first | (with_reducible first | refine wkI ?_ | exact ⟨⟩ | refine wkB (fun _ => ?_) fun _ => ?_ | refine wkT (fun _ => ?_) ?_ | refine wkS ?_) | ((with_reducible refine wkC ?_ ?_); exact CEq.refl _) | ((with_reducible fail_if_success first | constructor | show False); conv => whnf)
  · rename_i h
    have hp : ¬ nextOk l := fun x => by rw [decide_eq_true x.1, decide_eq_true x.2] at h; simp at h
    rw [show nextL l = l from if_neg hp, show nextA l = 0 from if_neg hp, show nextC l = 0 from if_neg hp, decide_eq_false hp]
    repeat' first | (with_reducible first | refine wkI ?_ | exact ⟨⟩ | refine wkB (fun _ => ?_) fun _ => ?_ | refine wkT (fun _ => ?_) ?_ | refine wkS ?_) | ((with_reducible refine wkC ?_ ?_); exact CEq.refl _) | ((with_reducible fail_if_success first | constructor | show False); conv => whnf)
  · rename_i h
    have hp : nextOk l := by
      simp only [Bool.or_eq_false_iff, Bool.not_eq_false', decide_eq_true_eq] at h; exact h
    rw [show nextL l = (nx l).1 from if_pos hp, show nextA l = (nx l).1.at_ from if_pos hp, show nextC l = (nx l).2 from if_pos hp, decide_eq_true hp]
    obtain ⟨hr, hw⟩ := hp
    refine CallVC.mk' (fun _ => sl_Clone_lanes_Lane_ok K.m K.cloneL l.list.length (fun i j => lnE (l.list.getD i default) j) (by omega)) (fun _ => .cons (.one (CEq.refl _)) .nil) ?_
    repeat' first | (with_reducible first | refine wkI ?_ | exact ⟨⟩ | refine wkB (fun _ => ?_) fun _ => ?_ | refine wkT (fun _ => ?_) ?_ | refine wkS ?_) | ((with_reducible refine wkC ?_ ?_); exact CEq.refl _) | ((with_reducible fail_if_success first | constructor | show False); conv => whnf)
    refine LoopVC.inv (X := Ls) (fun x => right x ∧ waits x ∧ nx x = nx l ∧ x.list.length = l.list.length) (fun x => stL [(1, .va 1 0 0), (2, .va 2 0 0)]
      [(1, vE [.os 1019 0 3 0 l.list.length, .c (.int .i64 x.at_), .c (.bool x.given)]), (2, vE [.nil 3, .c (.int .i64 0), .c (.bool false)]), (1019, ⟨3, l.list.length, .dat fun r j => lnE (x.list.getD r default) j, false, true⟩)]) (fun x => mu x) l ⟨hr, hw, rfl, rfl⟩ ?_ ?_
    · (refine Le.of ?_ ?_ <;> repeat' first | exact trivial | exact CEq.refl _ | exact rfl | exact cI (by push_cast; first | rfl | omega) | exact SubE.dat fun _ _ _ _ => CEq.refl _ | refine SubE.varN ?_ | refine Exists.intro _ (And.intro rfl ?_) | refine And.intro ?_ ?_)
    rintro Q hQ x ⟨rx, wx, nxe, hlen⟩
    have hat := rx.2.1
    have h6 := rx.1.2
    have hcur := rx.cur
    have hgv := gv_bd rx
    have hm : mst x (pos x) ≤ 39 := by unfold mst; split <;> omega
    obtain ⟨⟨w1, w2⟩, ⟨d1, d2⟩, cl, cc⟩ := (show okLn (mst x (pos x)) (cur x) from hcur)
    have adv_h : ∀ d : Int, 0 ≤ d → ((cur x).costs = [] ∧ d = 0 ∨ ((cur x).costs ≠ [] ∧ gv x < hd0 x ∧ d = gv x)) → ∃ m : Ls, (right m ∧ waits m ∧ nx m = nx l ∧ m.list.length = l.list.length) ∧ mu m < mu x ∧ m.list = x.list.set (pos x) ⟨(x.list.getD (pos x) default).weight, d, (x.list.getD (pos x) default).costs⟩ ∧ m.at_ = (x.at_ + 1) % (l.list.length : Int) ∧ m.given = false := fun d h0 hd => by
      have ht : turn x = (adv x d, none) := by
        unfold turn
        rcases hd with ⟨a, rfl⟩ | ⟨a, b, rfl⟩
        · rw [if_pos a]
        · rw [if_neg a, if_pos b]
      obtain ⟨a, b, c⟩ := turn_none rx wx ht
      exact ⟨adv x d, ⟨a, b, (nx_none rx wx ht).symm.trans nxe, (adv_len d).trans hlen⟩, c, rfl, by rw [← hlen]; rfl, rfl⟩
    have srv_h : (cur x).costs ≠ [] → ¬ gv x < hd0 x → nx l = (srv x, hd0 x) := fun a b => by
      rw [← nxe]
      exact nx_some (by unfold turn; rw [if_neg a, if_neg b])
    have hgt : x.given = true → gv x = (cur x).deficit := fun h => if_pos h
    have hgf : x.given = false → gv x = (cur x).deficit + (cur x).weight * 4 := fun h => if_neg (by rw [h]; decide)
    have hhd : hd0 x = (cur x).costs.getD 0 default := rfl
    obtain ⟨xl, xa, xg⟩ := x
    have hxa : xa = 0 ∨ xa = 1 ∨ xa = 2 ∨ xa = 3 ∨ xa = 4 ∨ xa = 5 := by dsimp only at hat h6; omega
    dsimp only at hlen hat adv_h srv_h hgt hgf
    have hcx : ∀ k : Nat, xa = k → cur ⟨xl, xa, xg⟩ = xl.getD k default ∧ pos ⟨xl, xa, xg⟩ = k := fun k h => by subst h; exact ⟨rfl, rfl⟩
    generalize hcu : cur ⟨xl, xa, xg⟩ = X at *
    generalize pos ⟨xl, xa, xg⟩ = a at *
    rcases hxa with rfl | rfl | rfl | rfl | rfl | rfl
    · obtain ⟨rfl, rfl⟩ := hcx 0 rfl
      clear hcx
      have hX' : xl.getD (addN 0 (Int.toNat 0)) default = xl.getD 0 default := rfl
      have hmx : (xl.getD 0 default).deficit ≤ 39 := Int.le_trans d2 hm
      dsimp only
      repeat' first | (with_reducible first | refine wkI ?_ | exact ⟨⟩ | refine wkB (fun _ => ?_) fun _ => ?_ | refine wkT (fun _ => ?_) ?_ | first | refine wkX ?_ | (refine Need.mk ?_ ?_; (first | (rw [hX']; simp only [rng]; omega) | (rw [hX']; omega)))) | ((with_reducible fail_if_success first | constructor | show False); conv => whnf)
      · rename_i h3
        have h3 : (xl.getD 0 default).costs = [] := List.length_eq_zero_iff.1 (by have := of_decide_eq_true h3; rw [hX'] at this; omega)
        obtain ⟨m, hm1, hm2, hm3, hm4, hm5⟩ := adv_h 0 (by decide) (.inl ⟨h3, rfl⟩)
        refine LoopEnd.mk ⟨m, hm1, hm2, ?_⟩
        rw [hm3, hm4, hm5]
        (refine Le.of ?_ ?_ <;> repeat' first | exact trivial | exact CEq.refl _ | exact rfl | exact cI (by push_cast; first | rfl | omega) | exact SubE.dat fun _ _ _ _ => CEq.refl _ | refine SubE.varN ?_ | refine Exists.intro _ (And.intro rfl ?_) | refine And.intro ?_ ?_)
        exact (IsL.def IsL.refl).sub (by rw [List.length_set]; exact hlen.symm)
      · rename_i h3 h4
        have hne : 0 < (xl.getD 0 default).costs.length := by have := of_decide_eq_false h3; rw [hX'] at this; omega
        have hne' : (xl.getD 0 default).costs ≠ [] := fun e => by rw [e] at hne; simp at hne
        have hg0 := hgf (by simpa using h4)
        repeat' first | (with_reducible first | refine wkI ?_ | exact ⟨⟩ | refine wkB (fun _ => ?_) fun _ => ?_ | refine wkT (fun _ => ?_) ?_ | first | refine wkX ?_ | (refine Need.mk ?_ ?_; (first | (rw [hX']; simp only [rng]; omega) | (rw [hX']; omega)))) | ((with_reducible fail_if_success first | constructor | show False); conv => whnf)
        · rename_i h5
          have h5 := of_decide_eq_true h5
          obtain ⟨m, hm1, hm2, hm3, hm4, hm5⟩ := adv_h ((xl.getD 0 default).deficit + (xl.getD 0 default).weight * 4) (by omega) (.inr ⟨hne', by rw [hg0, hhd]; exact h5, hg0.symm⟩)
          refine LoopEnd.mk ⟨m, hm1, hm2, ?_⟩
          rw [hm3, hm4, hm5]
          (refine Le.of ?_ ?_ <;> repeat' first | exact trivial | exact CEq.refl _ | exact rfl | exact cI (by push_cast; first | rfl | omega) | exact SubE.dat fun _ _ _ _ => CEq.refl _ | refine SubE.varN ?_ | refine Exists.intro _ (And.intro rfl ?_) | refine And.intro ?_ ?_)
          exact (IsL.def IsL.refl).sub (by rw [List.length_set]; exact hlen.symm)
        · rename_i h5
          have h5 := of_decide_eq_false h5
          have hs := srv_h hne' (by rw [hg0, hhd]; exact h5)
          refine CallVC.mk' (fun _ => sl_Clone_int_ok K.m K.cloneI ((xl.getD 0 default).costs.length - 1) (fun i j => intE (((xl.getD 0 default).costs.drop 1).getD i default) j) (by omega)) (fun _ => .cons (.one (CEq.slice fun i hi j hj => ?_)) .nil) ?_
          · rw [List.getD_eq_getElem?_getD (l := (xl.getD 0 default).costs.drop 1), List.getElem?_drop, ← List.getD_eq_getElem?_getD]
            exact CEq.refl _
          have hc1 : 1 ≤ (xl.getD 0 default).costs.getD (Int.toNat 0) default ∧ (xl.getD 0 default).costs.getD (Int.toNat 0) default ≤ 8 := cc _ (getD_mem hne)
          have hdl : ((xl.getD 0 default).costs.drop 1).length = (xl.getD 0 default).costs.length - 1 := List.length_drop ..
          have hcc : CEq (Cell.sl 1 ((xl.getD 0 default).costs.length - 1) fun i j => (fun i j => intE (((xl.getD 0 default).costs.drop 1).getD i default) j) (addN 0 i) j) (slL 1 intE ((xl.getD 0 default).costs.drop 1)) := IsL.refl.off.ceq hdl.symm
          repeat' first | (with_reducible first | refine wkI ?_ | exact ⟨⟩ | refine wkB (fun _ => ?_) fun _ => ?_ | refine wkT (fun _ => ?_) ?_ | first | refine wkX ?_ | (refine Need.mk ?_ ?_; (first | (rw [hX']; simp only [rng]; omega) | (rw [hX']; omega)))) | ((with_reducible fail_if_success first | constructor | show False); conv => whnf)
          · rename_i h6
            have h6 := of_decide_eq_true h6
            have hz : lsE (srv ⟨xl, 0, xg⟩) 0 = slL 3 lnE (xl.set 0 ⟨(xl.getD 0 default).weight, 0, (xl.getD 0 default).costs.drop 1⟩) := by
              show slL 3 lnE (xl.set 0 ⟨_, if (xl.getD 0 default).costs.drop 1 = [] then (0 : Int) else _, _⟩) = _
              rw [if_pos (List.length_eq_zero_iff.1 (by omega))]; rfl
            refine Out.mk (hQ _ _ ?_)
            rw [hs]
            repeat' first | (with_reducible first | refine wkI ?_ | exact ⟨⟩ | refine wkB (fun _ => ?_) fun _ => ?_ | refine wkT (fun _ => ?_) ?_ | first | refine wkX ?_ | (refine Need.mk ?_ ?_; (first | (rw [hX']; simp only [rng]; omega) | (rw [hX']; omega)))) | ((with_reducible fail_if_success first | constructor | show False); conv => whnf)
            refine Need.mk (by rw [hz]; exact ((((Upd.start.d).c hcc).d).d).isL.off.ceq (by rw [List.length_set]; exact hlen.symm)) ?_
            repeat' first | (with_reducible first | refine wkI ?_ | exact ⟨⟩ | refine wkB (fun _ => ?_) fun _ => ?_ | refine wkT (fun _ => ?_) ?_ | first | refine wkX ?_ | (refine Need.mk ?_ ?_; (first | (rw [hX']; simp only [rng]; omega) | (rw [hX']; omega)))) | ((with_reducible refine wkC ?_ ?_); exact CEq.refl _) | ((with_reducible fail_if_success first | constructor | show False); conv => whnf)
          · rename_i h6
            have h6 := of_decide_eq_false h6
            have hz : lsE (srv ⟨xl, 0, xg⟩) 0 = slL 3 lnE (xl.set 0 ⟨(xl.getD 0 default).weight, gv ⟨xl, 0, xg⟩ - (xl.getD 0 default).costs.getD 0 default, (xl.getD 0 default).costs.drop 1⟩) := by
              show slL 3 lnE (xl.set 0 ⟨_, if (xl.getD 0 default).costs.drop 1 = [] then (0 : Int) else _, _⟩) = _
              rw [if_neg (fun e => by rw [e] at hdl; exact h6 (by rw [← hdl]; rfl))]; rfl
            rw [hg0] at hz
            refine Out.mk (hQ _ _ ?_)
            rw [hs]
            repeat' first | (with_reducible first | refine wkI ?_ | exact ⟨⟩ | refine wkB (fun _ => ?_) fun _ => ?_ | refine wkT (fun _ => ?_) ?_ | first | refine wkX ?_ | (refine Need.mk ?_ ?_; (first | (rw [hX']; simp only [rng]; omega) | (rw [hX']; omega)))) | ((with_reducible fail_if_success first | constructor | show False); conv => whnf)
            refine Need.mk (by rw [hz]; exact (((Upd.start.d).c hcc).d).isL.off.ceq (by rw [List.length_set]; exact hlen.symm)) ?_
            repeat' first | (with_reducible first | refine wkI ?_ | exact ⟨⟩ | refine wkB (fun _ => ?_) fun _ => ?_ | refine wkT (fun _ => ?_) ?_ | first | refine wkX ?_ | (refine Need.mk ?_ ?_; (first | (rw [hX']; simp only [rng]; omega) | (rw [hX']; omega)))) | ((with_reducible refine wkC ?_ ?_); exact CEq.refl _) | ((with_reducible fail_if_success first | constructor | show False); conv => whnf)
      · rename_i h3 h4
        have hne : 0 < (xl.getD 0 default).costs.length := by have := of_decide_eq_false h3; rw [hX'] at this; omega
        have hne' : (xl.getD 0 default).costs ≠ [] := fun e => by rw [e] at hne; simp at hne
        obtain rfl : xg = true := by simpa using h4
        have hg0 := hgt rfl
        repeat' first | (with_reducible first | refine wkI ?_ | exact ⟨⟩ | refine wkB (fun _ => ?_) fun _ => ?_ | refine wkT (fun _ => ?_) ?_ | first | refine wkX ?_ | (refine Need.mk ?_ ?_; (first | (rw [hX']; simp only [rng]; omega) | (rw [hX']; omega)))) | ((with_reducible fail_if_success first | constructor | show False); conv => whnf)
        · rename_i h5
          have h5 := of_decide_eq_true h5
          obtain ⟨m, hm1, hm2, hm3, hm4, hm5⟩ := adv_h (xl.getD 0 default).deficit (by omega) (.inr ⟨hne', by rw [hg0, hhd]; exact h5, hg0.symm⟩)
          refine LoopEnd.mk ⟨m, hm1, hm2, ?_⟩
          rw [hm3, hm4, hm5]
          rw [setSelf]
          (refine Le.of ?_ ?_ <;> repeat' first | exact trivial | exact CEq.refl _ | exact rfl | exact cI (by push_cast; first | rfl | omega) | exact SubE.dat fun _ _ _ _ => CEq.refl _ | refine SubE.varN ?_ | refine Exists.intro _ (And.intro rfl ?_) | refine And.intro ?_ ?_)
        · rename_i h5
          have h5 := of_decide_eq_false h5
          have hs := srv_h hne' (by rw [hg0, hhd]; exact h5)
          refine CallVC.mk' (fun _ => sl_Clone_int_ok K.m K.cloneI ((xl.getD 0 default).costs.length - 1) (fun i j => intE (((xl.getD 0 default).costs.drop 1).getD i default) j) (by omega)) (fun _ => .cons (.one (CEq.slice fun i hi j hj => ?_)) .nil) ?_
          · rw [List.getD_eq_getElem?_getD (l := (xl.getD 0 default).costs.drop 1), List.getElem?_drop, ← List.getD_eq_getElem?_getD]
            exact CEq.refl _
          have hc1 : 1 ≤ (xl.getD 0 default).costs.getD (Int.toNat 0) default ∧ (xl.getD 0 default).costs.getD (Int.toNat 0) default ≤ 8 := cc _ (getD_mem hne)
          have hdl : ((xl.getD 0 default).costs.drop 1).length = (xl.getD 0 default).costs.length - 1 := List.length_drop ..
          have hcc : CEq (Cell.sl 1 ((xl.getD 0 default).costs.length - 1) fun i j => (fun i j => intE (((xl.getD 0 default).costs.drop 1).getD i default) j) (addN 0 i) j) (slL 1 intE ((xl.getD 0 default).costs.drop 1)) := IsL.refl.off.ceq hdl.symm
          repeat' first | (with_reducible first | refine wkI ?_ | exact ⟨⟩ | refine wkB (fun _ => ?_) fun _ => ?_ | refine wkT (fun _ => ?_) ?_ | first | refine wkX ?_ | (refine Need.mk ?_ ?_; (first | (rw [hX']; simp only [rng]; omega) | (rw [hX']; omega)))) | ((with_reducible fail_if_success first | constructor | show False); conv => whnf)
          · rename_i h6
            have h6 := of_decide_eq_true h6
            have hz : lsE (srv ⟨xl, 0, true⟩) 0 = slL 3 lnE (xl.set 0 ⟨(xl.getD 0 default).weight, 0, (xl.getD 0 default).costs.drop 1⟩) := by
              show slL 3 lnE (xl.set 0 ⟨_, if (xl.getD 0 default).costs.drop 1 = [] then (0 : Int) else _, _⟩) = _
              rw [if_pos (List.length_eq_zero_iff.1 (by omega))]; rfl
            refine Out.mk (hQ _ _ ?_)
            rw [hs]
            repeat' first | (with_reducible first | refine wkI ?_ | exact ⟨⟩ | refine wkB (fun _ => ?_) fun _ => ?_ | refine wkT (fun _ => ?_) ?_ | first | refine wkX ?_ | (refine Need.mk ?_ ?_; (first | (rw [hX']; simp only [rng]; omega) | (rw [hX']; omega)))) | ((with_reducible fail_if_success first | constructor | show False); conv => whnf)
            refine Need.mk (by rw [hz]; exact (((Upd.start.c hcc).d).d).isL.off.ceq (by rw [List.length_set]; exact hlen.symm)) ?_
            repeat' first | (with_reducible first | refine wkI ?_ | exact ⟨⟩ | refine wkB (fun _ => ?_) fun _ => ?_ | refine wkT (fun _ => ?_) ?_ | first | refine wkX ?_ | (refine Need.mk ?_ ?_; (first | (rw [hX']; simp only [rng]; omega) | (rw [hX']; omega)))) | ((with_reducible refine wkC ?_ ?_); exact CEq.refl _) | ((with_reducible fail_if_success first | constructor | show False); conv => whnf)
          · rename_i h6
            have h6 := of_decide_eq_false h6
            have hz : lsE (srv ⟨xl, 0, true⟩) 0 = slL 3 lnE (xl.set 0 ⟨(xl.getD 0 default).weight, gv ⟨xl, 0, true⟩ - (xl.getD 0 default).costs.getD 0 default, (xl.getD 0 default).costs.drop 1⟩) := by
              show slL 3 lnE (xl.set 0 ⟨_, if (xl.getD 0 default).costs.drop 1 = [] then (0 : Int) else _, _⟩) = _
              rw [if_neg (fun e => by rw [e] at hdl; exact h6 (by rw [← hdl]; rfl))]; rfl
            rw [hg0] at hz
            refine Out.mk (hQ _ _ ?_)
            rw [hs]
            repeat' first | (with_reducible first | refine wkI ?_ | exact ⟨⟩ | refine wkB (fun _ => ?_) fun _ => ?_ | refine wkT (fun _ => ?_) ?_ | first | refine wkX ?_ | (refine Need.mk ?_ ?_; (first | (rw [hX']; simp only [rng]; omega) | (rw [hX']; omega)))) | ((with_reducible fail_if_success first | constructor | show False); conv => whnf)
            refine Need.mk (by rw [hz]; exact ((Upd.start.c hcc).d).isL.off.ceq (by rw [List.length_set]; exact hlen.symm)) ?_
            repeat' first | (with_reducible first | refine wkI ?_ | exact ⟨⟩ | refine wkB (fun _ => ?_) fun _ => ?_ | refine wkT (fun _ => ?_) ?_ | first | refine wkX ?_ | (refine Need.mk ?_ ?_; (first | (rw [hX']; simp only [rng]; omega) | (rw [hX']; omega)))) | ((with_reducible refine wkC ?_ ?_); exact CEq.refl _) | ((with_reducible fail_if_success first | constructor | show False); conv => whnf)
    · obtain ⟨rfl, rfl⟩ := hcx 1 rfl
      clear hcx
      have hX' : xl.getD (addN 0 (Int.toNat 1)) default = xl.getD 1 default := rfl
      have hmx : (xl.getD 1 default).deficit ≤ 39 := Int.le_trans d2 hm
      dsimp only
      repeat' first | (with_reducible first | refine wkI ?_ | exact ⟨⟩ | refine wkB (fun _ => ?_) fun _ => ?_ | refine wkT (fun _ => ?_) ?_ | first | refine wkX ?_ | (refine Need.mk ?_ ?_; (first | (rw [hX']; simp only [rng]; omega) | (rw [hX']; omega)))) | ((with_reducible fail_if_success first | constructor | show False); conv => whnf)
      · rename_i h3
        have h3 : (xl.getD 1 default).costs = [] := List.length_eq_zero_iff.1 (by have := of_decide_eq_true h3; rw [hX'] at this; omega)
        obtain ⟨m, hm1, hm2, hm3, hm4, hm5⟩ := adv_h 0 (by decide) (.inl ⟨h3, rfl⟩)
        refine LoopEnd.mk ⟨m, hm1, hm2, ?_⟩
        rw [hm3, hm4, hm5]
        (refine Le.of ?_ ?_ <;> repeat' first | exact trivial | exact CEq.refl _ | exact rfl | exact cI (by push_cast; first | rfl | omega) | exact SubE.dat fun _ _ _ _ => CEq.refl _ | refine SubE.varN ?_ | refine Exists.intro _ (And.intro rfl ?_) | refine And.intro ?_ ?_)
        exact (IsL.def IsL.refl).sub (by rw [List.length_set]; exact hlen.symm)
      · rename_i h3 h4
        have hne : 0 < (xl.getD 1 default).costs.length := by have := of_decide_eq_false h3; rw [hX'] at this; omega
        have hne' : (xl.getD 1 default).costs ≠ [] := fun e => by rw [e] at hne; simp at hne
        have hg0 := hgf (by simpa using h4)
        repeat' first | (with_reducible first | refine wkI ?_ | exact ⟨⟩ | refine wkB (fun _ => ?_) fun _ => ?_ | refine wkT (fun _ => ?_) ?_ | first | refine wkX ?_ | (refine Need.mk ?_ ?_; (first | (rw [hX']; simp only [rng]; omega) | (rw [hX']; omega)))) | ((with_reducible fail_if_success first | constructor | show False); conv => whnf)
        · rename_i h5
          have h5 := of_decide_eq_true h5
          obtain ⟨m, hm1, hm2, hm3, hm4, hm5⟩ := adv_h ((xl.getD 1 default).deficit + (xl.getD 1 default).weight * 4) (by omega) (.inr ⟨hne', by rw [hg0, hhd]; exact h5, hg0.symm⟩)
          refine LoopEnd.mk ⟨m, hm1, hm2, ?_⟩
          rw [hm3, hm4, hm5]
          (refine Le.of ?_ ?_ <;> repeat' first | exact trivial | exact CEq.refl _ | exact rfl | exact cI (by push_cast; first | rfl | omega) | exact SubE.dat fun _ _ _ _ => CEq.refl _ | refine SubE.varN ?_ | refine Exists.intro _ (And.intro rfl ?_) | refine And.intro ?_ ?_)
          exact (IsL.def IsL.refl).sub (by rw [List.length_set]; exact hlen.symm)
        · rename_i h5
          have h5 := of_decide_eq_false h5
          have hs := srv_h hne' (by rw [hg0, hhd]; exact h5)
          refine CallVC.mk' (fun _ => sl_Clone_int_ok K.m K.cloneI ((xl.getD 1 default).costs.length - 1) (fun i j => intE (((xl.getD 1 default).costs.drop 1).getD i default) j) (by omega)) (fun _ => .cons (.one (CEq.slice fun i hi j hj => ?_)) .nil) ?_
          · rw [List.getD_eq_getElem?_getD (l := (xl.getD 1 default).costs.drop 1), List.getElem?_drop, ← List.getD_eq_getElem?_getD]
            exact CEq.refl _
          have hc1 : 1 ≤ (xl.getD 1 default).costs.getD (Int.toNat 0) default ∧ (xl.getD 1 default).costs.getD (Int.toNat 0) default ≤ 8 := cc _ (getD_mem hne)
          have hdl : ((xl.getD 1 default).costs.drop 1).length = (xl.getD 1 default).costs.length - 1 := List.length_drop ..
          have hcc : CEq (Cell.sl 1 ((xl.getD 1 default).costs.length - 1) fun i j => (fun i j => intE (((xl.getD 1 default).costs.drop 1).getD i default) j) (addN 0 i) j) (slL 1 intE ((xl.getD 1 default).costs.drop 1)) := IsL.refl.off.ceq hdl.symm
          repeat' first | (with_reducible first | refine wkI ?_ | exact ⟨⟩ | refine wkB (fun _ => ?_) fun _ => ?_ | refine wkT (fun _ => ?_) ?_ | first | refine wkX ?_ | (refine Need.mk ?_ ?_; (first | (rw [hX']; simp only [rng]; omega) | (rw [hX']; omega)))) | ((with_reducible fail_if_success first | constructor | show False); conv => whnf)
          · rename_i h6
            have h6 := of_decide_eq_true h6
            have hz : lsE (srv ⟨xl, 1, xg⟩) 0 = slL 3 lnE (xl.set 1 ⟨(xl.getD 1 default).weight, 0, (xl.getD 1 default).costs.drop 1⟩) := by
              show slL 3 lnE (xl.set 1 ⟨_, if (xl.getD 1 default).costs.drop 1 = [] then (0 : Int) else _, _⟩) = _
              rw [if_pos (List.length_eq_zero_iff.1 (by omega))]; rfl
            refine Out.mk (hQ _ _ ?_)
            rw [hs]
            repeat' first | (with_reducible first | refine wkI ?_ | exact ⟨⟩ | refine wkB (fun _ => ?_) fun _ => ?_ | refine wkT (fun _ => ?_) ?_ | first | refine wkX ?_ | (refine Need.mk ?_ ?_; (first | (rw [hX']; simp only [rng]; omega) | (rw [hX']; omega)))) | ((with_reducible fail_if_success first | constructor | show False); conv => whnf)
            refine Need.mk (by rw [hz]; exact ((((Upd.start.d).c hcc).d).d).isL.off.ceq (by rw [List.length_set]; exact hlen.symm)) ?_
            repeat' first | (with_reducible first | refine wkI ?_ | exact ⟨⟩ | refine wkB (fun _ => ?_) fun _ => ?_ | refine wkT (fun _ => ?_) ?_ | first | refine wkX ?_ | (refine Need.mk ?_ ?_; (first | (rw [hX']; simp only [rng]; omega) | (rw [hX']; omega)))) | ((with_reducible refine wkC ?_ ?_); exact CEq.refl _) | ((with_reducible fail_if_success first | constructor | show False); conv => whnf)
          · rename_i h6
            have h6 := of_decide_eq_false h6
            have hz : lsE (srv ⟨xl, 1, xg⟩) 0 = slL 3 lnE (xl.set 1 ⟨(xl.getD 1 default).weight, gv ⟨xl, 1, xg⟩ - (xl.getD 1 default).costs.getD 0 default, (xl.getD 1 default).costs.drop 1⟩) := by
              show slL 3 lnE (xl.set 1 ⟨_, if (xl.getD 1 default).costs.drop 1 = [] then (0 : Int) else _, _⟩) = _
              rw [if_neg (fun e => by rw [e] at hdl; exact h6 (by rw [← hdl]; rfl))]; rfl
            rw [hg0] at hz
            refine Out.mk (hQ _ _ ?_)
            rw [hs]
            repeat' first | (with_reducible first | refine wkI ?_ | exact ⟨⟩ | refine wkB (fun _ => ?_) fun _ => ?_ | refine wkT (fun _ => ?_) ?_ | first | refine wkX ?_ | (refine Need.mk ?_ ?_; (first | (rw [hX']; simp only [rng]; omega) | (rw [hX']; omega)))) | ((with_reducible fail_if_success first | constructor | show False); conv => whnf)
            refine Need.mk (by rw [hz]; exact (((Upd.start.d).c hcc).d).isL.off.ceq (by rw [List.length_set]; exact hlen.symm)) ?_
            repeat' first | (with_reducible first | refine wkI ?_ | exact ⟨⟩ | refine wkB (fun _ => ?_) fun _ => ?_ | refine wkT (fun _ => ?_) ?_ | first | refine wkX ?_ | (refine Need.mk ?_ ?_; (first | (rw [hX']; simp only [rng]; omega) | (rw [hX']; omega)))) | ((with_reducible refine wkC ?_ ?_); exact CEq.refl _) | ((with_reducible fail_if_success first | constructor | show False); conv => whnf)
      · rename_i h3 h4
        have hne : 0 < (xl.getD 1 default).costs.length := by have := of_decide_eq_false h3; rw [hX'] at this; omega
        have hne' : (xl.getD 1 default).costs ≠ [] := fun e => by rw [e] at hne; simp at hne
        obtain rfl : xg = true := by simpa using h4
        have hg0 := hgt rfl
        repeat' first | (with_reducible first | refine wkI ?_ | exact ⟨⟩ | refine wkB (fun _ => ?_) fun _ => ?_ | refine wkT (fun _ => ?_) ?_ | first | refine wkX ?_ | (refine Need.mk ?_ ?_; (first | (rw [hX']; simp only [rng]; omega) | (rw [hX']; omega)))) | ((with_reducible fail_if_success first | constructor | show False); conv => whnf)
        · rename_i h5
          have h5 := of_decide_eq_true h5
          obtain ⟨m, hm1, hm2, hm3, hm4, hm5⟩ := adv_h (xl.getD 1 default).deficit (by omega) (.inr ⟨hne', by rw [hg0, hhd]; exact h5, hg0.symm⟩)
          refine LoopEnd.mk ⟨m, hm1, hm2, ?_⟩
          rw [hm3, hm4, hm5]
          rw [setSelf]
          (refine Le.of ?_ ?_ <;> repeat' first | exact trivial | exact CEq.refl _ | exact rfl | exact cI (by push_cast; first | rfl | omega) | exact SubE.dat fun _ _ _ _ => CEq.refl _ | refine SubE.varN ?_ | refine Exists.intro _ (And.intro rfl ?_) | refine And.intro ?_ ?_)
        · rename_i h5
          have h5 := of_decide_eq_false h5
          have hs := srv_h hne' (by rw [hg0, hhd]; exact h5)
          refine CallVC.mk' (fun _ => sl_Clone_int_ok K.m K.cloneI ((xl.getD 1 default).costs.length - 1) (fun i j => intE (((xl.getD 1 default).costs.drop 1).getD i default) j) (by omega)) (fun _ => .cons (.one (CEq.slice fun i hi j hj => ?_)) .nil) ?_
          · rw [List.getD_eq_getElem?_getD (l := (xl.getD 1 default).costs.drop 1), List.getElem?_drop, ← List.getD_eq_getElem?_getD]
            exact CEq.refl _
          have hc1 : 1 ≤ (xl.getD 1 default).costs.getD (Int.toNat 0) default ∧ (xl.getD 1 default).costs.getD (Int.toNat 0) default ≤ 8 := cc _ (getD_mem hne)
          have hdl : ((xl.getD 1 default).costs.drop 1).length = (xl.getD 1 default).costs.length - 1 := List.length_drop ..
          have hcc : CEq (Cell.sl 1 ((xl.getD 1 default).costs.length - 1) fun i j => (fun i j => intE (((xl.getD 1 default).costs.drop 1).getD i default) j) (addN 0 i) j) (slL 1 intE ((xl.getD 1 default).costs.drop 1)) := IsL.refl.off.ceq hdl.symm
          repeat' first | (with_reducible first | refine wkI ?_ | exact ⟨⟩ | refine wkB (fun _ => ?_) fun _ => ?_ | refine wkT (fun _ => ?_) ?_ | first | refine wkX ?_ | (refine Need.mk ?_ ?_; (first | (rw [hX']; simp only [rng]; omega) | (rw [hX']; omega)))) | ((with_reducible fail_if_success first | constructor | show False); conv => whnf)
          · rename_i h6
            have h6 := of_decide_eq_true h6
            have hz : lsE (srv ⟨xl, 1, true⟩) 0 = slL 3 lnE (xl.set 1 ⟨(xl.getD 1 default).weight, 0, (xl.getD 1 default).costs.drop 1⟩) := by
              show slL 3 lnE (xl.set 1 ⟨_, if (xl.getD 1 default).costs.drop 1 = [] then (0 : Int) else _, _⟩) = _
              rw [if_pos (List.length_eq_zero_iff.1 (by omega))]; rfl
            refine Out.mk (hQ _ _ ?_)
            rw [hs]
            repeat' first | (with_reducible first | refine wkI ?_ | exact ⟨⟩ | refine wkB (fun _ => ?_) fun _ => ?_ | refine wkT (fun _ => ?_) ?_ | first | refine wkX ?_ | (refine Need.mk ?_ ?_; (first | (rw [hX']; simp only [rng]; omega) | (rw [hX']; omega)))) | ((with_reducible fail_if_success first | constructor | show False); conv => whnf)
            refine Need.mk (by rw [hz]; exact (((Upd.start.c hcc).d).d).isL.off.ceq (by rw [List.length_set]; exact hlen.symm)) ?_
            repeat' first | (with_reducible first | refine wkI ?_ | exact ⟨⟩ | refine wkB (fun _ => ?_) fun _ => ?_ | refine wkT (fun _ => ?_) ?_ | first | refine wkX ?_ | (refine Need.mk ?_ ?_; (first | (rw [hX']; simp only [rng]; omega) | (rw [hX']; omega)))) | ((with_reducible refine wkC ?_ ?_); exact CEq.refl _) | ((with_reducible fail_if_success first | constructor | show False); conv => whnf)
          · rename_i h6
            have h6 := of_decide_eq_false h6
            have hz : lsE (srv ⟨xl, 1, true⟩) 0 = slL 3 lnE (xl.set 1 ⟨(xl.getD 1 default).weight, gv ⟨xl, 1, true⟩ - (xl.getD 1 default).costs.getD 0 default, (xl.getD 1 default).costs.drop 1⟩) := by
              show slL 3 lnE (xl.set 1 ⟨_, if (xl.getD 1 default).costs.drop 1 = [] then (0 : Int) else _, _⟩) = _
              rw [if_neg (fun e => by rw [e] at hdl; exact h6 (by rw [← hdl]; rfl))]; rfl
            rw [hg0] at hz
            refine Out.mk (hQ _ _ ?_)
            rw [hs]
            repeat' first | (with_reducible first | refine wkI ?_ | exact ⟨⟩ | refine wkB (fun _ => ?_) fun _ => ?_ | refine wkT (fun _ => ?_) ?_ | first | refine wkX ?_ | (refine Need.mk ?_ ?_; (first | (rw [hX']; simp only [rng]; omega) | (rw [hX']; omega)))) | ((with_reducible fail_if_success first | constructor | show False); conv => whnf)
            refine Need.mk (by rw [hz]; exact ((Upd.start.c hcc).d).isL.off.ceq (by rw [List.length_set]; exact hlen.symm)) ?_
            repeat' first | (with_reducible first | refine wkI ?_ | exact ⟨⟩ | refine wkB (fun _ => ?_) fun _ => ?_ | refine wkT (fun _ => ?_) ?_ | first | refine wkX ?_ | (refine Need.mk ?_ ?_; (first | (rw [hX']; simp only [rng]; omega) | (rw [hX']; omega)))) | ((with_reducible refine wkC ?_ ?_); exact CEq.refl _) | ((with_reducible fail_if_success first | constructor | show False); conv => whnf)
    · obtain ⟨rfl, rfl⟩ := hcx 2 rfl
      clear hcx
      have hX' : xl.getD (addN 0 (Int.toNat 2)) default = xl.getD 2 default := rfl
      have hmx : (xl.getD 2 default).deficit ≤ 39 := Int.le_trans d2 hm
      dsimp only
      repeat' first | (with_reducible first | refine wkI ?_ | exact ⟨⟩ | refine wkB (fun _ => ?_) fun _ => ?_ | refine wkT (fun _ => ?_) ?_ | first | refine wkX ?_ | (refine Need.mk ?_ ?_; (first | (rw [hX']; simp only [rng]; omega) | (rw [hX']; omega)))) | ((with_reducible fail_if_success first | constructor | show False); conv => whnf)
      · rename_i h3
        have h3 : (xl.getD 2 default).costs = [] := List.length_eq_zero_iff.1 (by have := of_decide_eq_true h3; rw [hX'] at this; omega)
        obtain ⟨m, hm1, hm2, hm3, hm4, hm5⟩ := adv_h 0 (by decide) (.inl ⟨h3, rfl⟩)
        refine LoopEnd.mk ⟨m, hm1, hm2, ?_⟩
        rw [hm3, hm4, hm5]
        (refine Le.of ?_ ?_ <;> repeat' first | exact trivial | exact CEq.refl _ | exact rfl | exact cI (by push_cast; first | rfl | omega) | exact SubE.dat fun _ _ _ _ => CEq.refl _ | refine SubE.varN ?_ | refine Exists.intro _ (And.intro rfl ?_) | refine And.intro ?_ ?_)
        exact (IsL.def IsL.refl).sub (by rw [List.length_set]; exact hlen.symm)
      · rename_i h3 h4
        have hne : 0 < (xl.getD 2 default).costs.length := by have := of_decide_eq_false h3; rw [hX'] at this; omega
        have hne' : (xl.getD 2 default).costs ≠ [] := fun e => by rw [e] at hne; simp at hne
        have hg0 := hgf (by simpa using h4)
        repeat' first | (with_reducible first | refine wkI ?_ | exact ⟨⟩ | refine wkB (fun _ => ?_) fun _ => ?_ | refine wkT (fun _ => ?_) ?_ | first | refine wkX ?_ | (refine Need.mk ?_ ?_; (first | (rw [hX']; simp only [rng]; omega) | (rw [hX']; omega)))) | ((with_reducible fail_if_success first | constructor | show False); conv => whnf)
        · rename_i h5
          have h5 := of_decide_eq_true h5
          obtain ⟨m, hm1, hm2, hm3, hm4, hm5⟩ := adv_h ((xl.getD 2 default).deficit + (xl.getD 2 default).weight * 4) (by omega) (.inr ⟨hne', by rw [hg0, hhd]; exact h5, hg0.symm⟩)
          refine LoopEnd.mk ⟨m, hm1, hm2, ?_⟩
          rw [hm3, hm4, hm5]
          (refine Le.of ?_ ?_ <;> repeat' first | exact trivial | exact CEq.refl _ | exact rfl | exact cI (by push_cast; first | rfl | omega) | exact SubE.dat fun _ _ _ _ => CEq.refl _ | refine SubE.varN ?_ | refine Exists.intro _ (And.intro rfl ?_) | refine And.intro ?_ ?_)
          exact (IsL.def IsL.refl).sub (by rw [List.length_set]; exact hlen.symm)
        · rename_i h5
          have h5 := of_decide_eq_false h5
          have hs := srv_h hne' (by rw [hg0, hhd]; exact h5)
          refine CallVC.mk' (fun _ => sl_Clone_int_ok K.m K.cloneI ((xl.getD 2 default).costs.length - 1) (fun i j => intE (((xl.getD 2 default).costs.drop 1).getD i default) j) (by omega)) (fun _ => .cons (.one (CEq.slice fun i hi j hj => ?_)) .nil) ?_
          · rw [List.getD_eq_getElem?_getD (l := (xl.getD 2 default).costs.drop 1), List.getElem?_drop, ← List.getD_eq_getElem?_getD]
            exact CEq.refl _
          have hc1 : 1 ≤ (xl.getD 2 default).costs.getD (Int.toNat 0) default ∧ (xl.getD 2 default).costs.getD (Int.toNat 0) default ≤ 8 := cc _ (getD_mem hne)
          have hdl : ((xl.getD 2 default).costs.drop 1).length = (xl.getD 2 default).costs.length - 1 := List.length_drop ..
          have hcc : CEq (Cell.sl 1 ((xl.getD 2 default).costs.length - 1) fun i j => (fun i j => intE (((xl.getD 2 default).costs.drop 1).getD i default) j) (addN 0 i) j) (slL 1 intE ((xl.getD 2 default).costs.drop 1)) := IsL.refl.off.ceq hdl.symm
          repeat' first | (with_reducible first | refine wkI ?_ | exact ⟨⟩ | refine wkB (fun _ => ?_) fun _ => ?_ | refine wkT (fun _ => ?_) ?_ | first | refine wkX ?_ | (refine Need.mk ?_ ?_; (first | (rw [hX']; simp only [rng]; omega) | (rw [hX']; omega)))) | ((with_reducible fail_if_success first | constructor | show False); conv => whnf)
          · rename_i h6
            have h6 := of_decide_eq_true h6
            have hz : lsE (srv ⟨xl, 2, xg⟩) 0 = slL 3 lnE (xl.set 2 ⟨(xl.getD 2 default).weight, 0, (xl.getD 2 default).costs.drop 1⟩) := by
              show slL 3 lnE (xl.set 2 ⟨_, if (xl.getD 2 default).costs.drop 1 = [] then (0 : Int) else _, _⟩) = _
              rw [if_pos (List.length_eq_zero_iff.1 (by omega))]; rfl
            refine Out.mk (hQ _ _ ?_)
            rw [hs]
            repeat' first | (with_reducible first | refine wkI ?_ | exact ⟨⟩ | refine wkB (fun _ => ?_) fun _ => ?_ | refine wkT (fun _ => ?_) ?_ | first | refine wkX ?_ | (refine Need.mk ?_ ?_; (first | (rw [hX']; simp only [rng]; omega) | (rw [hX']; omega)))) | ((with_reducible fail_if_success first | constructor | show False); conv => whnf)
            refine Need.mk (by rw [hz]; exact ((((Upd.start.d).c hcc).d).d).isL.off.ceq (by rw [List.length_set]; exact hlen.symm)) ?_
            repeat' first | (with_reducible first | refine wkI ?_ | exact ⟨⟩ | refine wkB (fun _ => ?_) fun _ => ?_ | refine wkT (fun _ => ?_) ?_ | first | refine wkX ?_ | (refine Need.mk ?_ ?_; (first | (rw [hX']; simp only [rng]; omega) | (rw [hX']; omega)))) | ((with_reducible refine wkC ?_ ?_); exact CEq.refl _) | ((with_reducible fail_if_success first | constructor | show False); conv => whnf)
          · rename_i h6
            have h6 := of_decide_eq_false h6
            have hz : lsE (srv ⟨xl, 2, xg⟩) 0 = slL 3 lnE (xl.set 2 ⟨(xl.getD 2 default).weight, gv ⟨xl, 2, xg⟩ - (xl.getD 2 default).costs.getD 0 default, (xl.getD 2 default).costs.drop 1⟩) := by
              show slL 3 lnE (xl.set 2 ⟨_, if (xl.getD 2 default).costs.drop 1 = [] then (0 : Int) else _, _⟩) = _
              rw [if_neg (fun e => by rw [e] at hdl; exact h6 (by rw [← hdl]; rfl))]; rfl
            rw [hg0] at hz
            refine Out.mk (hQ _ _ ?_)
            rw [hs]
            repeat' first | (with_reducible first | refine wkI ?_ | exact ⟨⟩ | refine wkB (fun _ => ?_) fun _ => ?_ | refine wkT (fun _ => ?_) ?_ | first | refine wkX ?_ | (refine Need.mk ?_ ?_; (first | (rw [hX']; simp only [rng]; omega) | (rw [hX']; omega)))) | ((with_reducible fail_if_success first | constructor | show False); conv => whnf)
            refine Need.mk (by rw [hz]; exact (((Upd.start.d).c hcc).d).isL.off.ceq (by rw [List.length_set]; exact hlen.symm)) ?_
            repeat' first | (with_reducible first | refine wkI ?_ | exact ⟨⟩ | refine wkB (fun _ => ?_) fun _ => ?_ | refine wkT (fun _ => ?_) ?_ | first | refine wkX ?_ | (refine Need.mk ?_ ?_; (first | (rw [hX']; simp only [rng]; omega) | (rw [hX']; omega)))) | ((with_reducible refine wkC ?_ ?_); exact CEq.refl _) | ((with_reducible fail_if_success first | constructor | show False); conv => whnf)
      · rename_i h3 h4
        have hne : 0 < (xl.getD 2 default).costs.length := by have := of_decide_eq_false h3; rw [hX'] at this; omega
        have hne' : (xl.getD 2 default).costs ≠ [] := fun e => by rw [e] at hne; simp at hne
        obtain rfl : xg = true := by simpa using h4
        have hg0 := hgt rfl
        repeat' first | (with_reducible first | refine wkI ?_ | exact ⟨⟩ | refine wkB (fun _ => ?_) fun _ => ?_ | refine wkT (fun _ => ?_) ?_ | first | refine wkX ?_ | (refine Need.mk ?_ ?_; (first | (rw [hX']; simp only [rng]; omega) | (rw [hX']; omega)))) | ((with_reducible fail_if_success first | constructor | show False); conv => whnf)
        · rename_i h5
          have h5 := of_decide_eq_true h5
          obtain ⟨m, hm1, hm2, hm3, hm4, hm5⟩ := adv_h (xl.getD 2 default).deficit (by omega) (.inr ⟨hne', by rw [hg0, hhd]; exact h5, hg0.symm⟩)
          refine LoopEnd.mk ⟨m, hm1, hm2, ?_⟩
          rw [hm3, hm4, hm5]
          rw [setSelf]
          (refine Le.of ?_ ?_ <;> repeat' first | exact trivial | exact CEq.refl _ | exact rfl | exact cI (by push_cast; first | rfl | omega) | exact SubE.dat fun _ _ _ _ => CEq.refl _ | refine SubE.varN ?_ | refine Exists.intro _ (And.intro rfl ?_) | refine And.intro ?_ ?_)
        · rename_i h5
          have h5 := of_decide_eq_false h5
          have hs := srv_h hne' (by rw [hg0, hhd]; exact h5)
          refine CallVC.mk' (fun _ => sl_Clone_int_ok K.m K.cloneI ((xl.getD 2 default).costs.length - 1) (fun i j => intE (((xl.getD 2 default).costs.drop 1).getD i default) j) (by omega)) (fun _ => .cons (.one (CEq.slice fun i hi j hj => ?_)) .nil) ?_
          · rw [List.getD_eq_getElem?_getD (l := (xl.getD 2 default).costs.drop 1), List.getElem?_drop, ← List.getD_eq_getElem?_getD]
            exact CEq.refl _
          have hc1 : 1 ≤ (xl.getD 2 default).costs.getD (Int.toNat 0) default ∧ (xl.getD 2 default).costs.getD (Int.toNat 0) default ≤ 8 := cc _ (getD_mem hne)
          have hdl : ((xl.getD 2 default).costs.drop 1).length = (xl.getD 2 default).costs.length - 1 := List.length_drop ..
          have hcc : CEq (Cell.sl 1 ((xl.getD 2 default).costs.length - 1) fun i j => (fun i j => intE (((xl.getD 2 default).costs.drop 1).getD i default) j) (addN 0 i) j) (slL 1 intE ((xl.getD 2 default).costs.drop 1)) := IsL.refl.off.ceq hdl.symm
          repeat' first | (with_reducible first | refine wkI ?_ | exact ⟨⟩ | refine wkB (fun _ => ?_) fun _ => ?_ | refine wkT (fun _ => ?_) ?_ | first | refine wkX ?_ | (refine Need.mk ?_ ?_; (first | (rw [hX']; simp only [rng]; omega) | (rw [hX']; omega)))) | ((with_reducible fail_if_success first | constructor | show False); conv => whnf)
          · rename_i h6
            have h6 := of_decide_eq_true h6
            have hz : lsE (srv ⟨xl, 2, true⟩) 0 = slL 3 lnE (xl.set 2 ⟨(xl.getD 2 default).weight, 0, (xl.getD 2 default).costs.drop 1⟩) := by
              show slL 3 lnE (xl.set 2 ⟨_, if (xl.getD 2 default).costs.drop 1 = [] then (0 : Int) else _, _⟩) = _
              rw [if_pos (List.length_eq_zero_iff.1 (by omega))]; rfl
            refine Out.mk (hQ _ _ ?_)
            rw [hs]
            repeat' first | (with_reducible first | refine wkI ?_ | exact ⟨⟩ | refine wkB (fun _ => ?_) fun _ => ?_ | refine wkT (fun _ => ?_) ?_ | first | refine wkX ?_ | (refine Need.mk ?_ ?_; (first | (rw [hX']; simp only [rng]; omega) | (rw [hX']; omega)))) | ((with_reducible fail_if_success first | constructor | show False); conv => whnf)
            refine Need.mk (by rw [hz]; exact (((Upd.start.c hcc).d).d).isL.off.ceq (by rw [List.length_set]; exact hlen.symm)) ?_
            repeat' first | (with_reducible first | refine wkI ?_ | exact ⟨⟩ | refine wkB (fun _ => ?_) fun _ => ?_ | refine wkT (fun _ => ?_) ?_ | first | refine wkX ?_ | (refine Need.mk ?_ ?_; (first | (rw [hX']; simp only [rng]; omega) | (rw [hX']; omega)))) | ((with_reducible refine wkC ?_ ?_); exact CEq.refl _) | ((with_reducible fail_if_success first | constructor | show False); conv => whnf)
          · rename_i h6
            have h6 := of_decide_eq_false h6
            have hz : lsE (srv ⟨xl, 2, true⟩) 0 = slL 3 lnE (xl.set 2 ⟨(xl.getD 2 default).weight, gv ⟨xl, 2, true⟩ - (xl.getD 2 default).costs.getD 0 default, (xl.getD 2 default).costs.drop 1⟩) := by
              show slL 3 lnE (xl.set 2 ⟨_, if (xl.getD 2 default).costs.drop 1 = [] then (0 : Int) else _, _⟩) = _
              rw [if_neg (fun e => by rw [e] at hdl; exact h6 (by rw [← hdl]; rfl))]; rfl
            rw [hg0] at hz
            refine Out.mk (hQ _ _ ?_)
            rw [hs]
            repeat' first | (with_reducible first | refine wkI ?_ | exact ⟨⟩ | refine wkB (fun _ => ?_) fun _ => ?_ | refine wkT (fun _ => ?_) ?_ | first | refine wkX ?_ | (refine Need.mk ?_ ?_; (first | (rw [hX']; simp only [rng]; omega) | (rw [hX']; omega)))) | ((with_reducible fail_if_success first | constructor | show False); conv => whnf)
            refine Need.mk (by rw [hz]; exact ((Upd.start.c hcc).d).isL.off.ceq (by rw [List.length_set]; exact hlen.symm)) ?_
            repeat' first | (with_reducible first | refine wkI ?_ | exact ⟨⟩ | refine wkB (fun _ => ?_) fun _ => ?_ | refine wkT (fun _ => ?_) ?_ | first | refine wkX ?_ | (refine Need.mk ?_ ?_; (first | (rw [hX']; simp only [rng]; omega) | (rw [hX']; omega)))) | ((with_reducible refine wkC ?_ ?_); exact CEq.refl _) | ((with_reducible fail_if_success first | constructor | show False); conv => whnf)
    · obtain ⟨rfl, rfl⟩ := hcx 3 rfl
      clear hcx
      have hX' : xl.getD (addN 0 (Int.toNat 3)) default = xl.getD 3 default := rfl
      have hmx : (xl.getD 3 default).deficit ≤ 39 := Int.le_trans d2 hm
      dsimp only
      repeat' first | (with_reducible first | refine wkI ?_ | exact ⟨⟩ | refine wkB (fun _ => ?_) fun _ => ?_ | refine wkT (fun _ => ?_) ?_ | first | refine wkX ?_ | (refine Need.mk ?_ ?_; (first | (rw [hX']; simp only [rng]; omega) | (rw [hX']; omega)))) | ((with_reducible fail_if_success first | constructor | show False); conv => whnf)
      · rename_i h3
        have h3 : (xl.getD 3 default).costs = [] := List.length_eq_zero_iff.1 (by have := of_decide_eq_true h3; rw [hX'] at this; omega)
        obtain ⟨m, hm1, hm2, hm3, hm4, hm5⟩ := adv_h 0 (by decide) (.inl ⟨h3, rfl⟩)
        refine LoopEnd.mk ⟨m, hm1, hm2, ?_⟩
        rw [hm3, hm4, hm5]
        (refine Le.of ?_ ?_ <;> repeat' first | exact trivial | exact CEq.refl _ | exact rfl | exact cI (by push_cast; first | rfl | omega) | exact SubE.dat fun _ _ _ _ => CEq.refl _ | refine SubE.varN ?_ | refine Exists.intro _ (And.intro rfl ?_) | refine And.intro ?_ ?_)
        exact (IsL.def IsL.refl).sub (by rw [List.length_set]; exact hlen.symm)
      · rename_i h3 h4
        have hne : 0 < (xl.getD 3 default).costs.length := by have := of_decide_eq_false h3; rw [hX'] at this; omega
        have hne' : (xl.getD 3 default).costs ≠ [] := fun e => by rw [e] at hne; simp at hne
        have hg0 := hgf (by simpa using h4)
        repeat' first | (with_reducible first | refine wkI ?_ | exact ⟨⟩ | refine wkB (fun _ => ?_) fun _ => ?_ | refine wkT (fun _ => ?_) ?_ | first | refine wkX ?_ | (refine Need.mk ?_ ?_; (first | (rw [hX']; simp only [rng]; omega) | (rw [hX']; omega)))) | ((with_reducible fail_if_success first | constructor | show False); conv => whnf)
        · rename_i h5
          have h5 := of_decide_eq_true h5
          obtain ⟨m, hm1, hm2, hm3, hm4, hm5⟩ := adv_h ((xl.getD 3 default).deficit + (xl.getD 3 default).weight * 4) (by omega) (.inr ⟨hne', by rw [hg0, hhd]; exact h5, hg0.symm⟩)
          refine LoopEnd.mk ⟨m, hm1, hm2, ?_⟩
          rw [hm3, hm4, hm5]
          (refine Le.of ?_ ?_ <;> repeat' first | exact trivial | exact CEq.refl _ | exact rfl | exact cI (by push_cast; first | rfl | omega) | exact SubE.dat fun _ _ _ _ => CEq.refl _ | refine SubE.varN ?_ | refine Exists.intro _ (And.intro rfl ?_) | refine And.intro ?_ ?_)
          exact (IsL.def IsL.refl).sub (by rw [List.length_set]; exact hlen.symm)
        · rename_i h5
          have h5 := of_decide_eq_false h5
          have hs := srv_h hne' (by rw [hg0, hhd]; exact h5)
          refine CallVC.mk' (fun _ => sl_Clone_int_ok K.m K.cloneI ((xl.getD 3 default).costs.length - 1) (fun i j => intE (((xl.getD 3 default).costs.drop 1).getD i default) j) (by omega)) (fun _ => .cons (.one (CEq.slice fun i hi j hj => ?_)) .nil) ?_
          · rw [List.getD_eq_getElem?_getD (l := (xl.getD 3 default).costs.drop 1), List.getElem?_drop, ← List.getD_eq_getElem?_getD]
            exact CEq.refl _
          have hc1 : 1 ≤ (xl.getD 3 default).costs.getD (Int.toNat 0) default ∧ (xl.getD 3 default).costs.getD (Int.toNat 0) default ≤ 8 := cc _ (getD_mem hne)
          have hdl : ((xl.getD 3 default).costs.drop 1).length = (xl.getD 3 default).costs.length - 1 := List.length_drop ..
          have hcc : CEq (Cell.sl 1 ((xl.getD 3 default).costs.length - 1) fun i j => (fun i j => intE (((xl.getD 3 default).costs.drop 1).getD i default) j) (addN 0 i) j) (slL 1 intE ((xl.getD 3 default).costs.drop 1)) := IsL.refl.off.ceq hdl.symm
          repeat' first | (with_reducible first | refine wkI ?_ | exact ⟨⟩ | refine wkB (fun _ => ?_) fun _ => ?_ | refine wkT (fun _ => ?_) ?_ | first | refine wkX ?_ | (refine Need.mk ?_ ?_; (first | (rw [hX']; simp only [rng]; omega) | (rw [hX']; omega)))) | ((with_reducible fail_if_success first | constructor | show False); conv => whnf)
          · rename_i h6
            have h6 := of_decide_eq_true h6
            have hz : lsE (srv ⟨xl, 3, xg⟩) 0 = slL 3 lnE (xl.set 3 ⟨(xl.getD 3 default).weight, 0, (xl.getD 3 default).costs.drop 1⟩) := by
              show slL 3 lnE (xl.set 3 ⟨_, if (xl.getD 3 default).costs.drop 1 = [] then (0 : Int) else _, _⟩) = _
              rw [if_pos (List.length_eq_zero_iff.1 (by omega))]; rfl
            refine Out.mk (hQ _ _ ?_)
            rw [hs]
            repeat' first | (with_reducible first | refine wkI ?_ | exact ⟨⟩ | refine wkB (fun _ => ?_) fun _ => ?_ | refine wkT (fun _ => ?_) ?_ | first | refine wkX ?_ | (refine Need.mk ?_ ?_; (first | (rw [hX']; simp only [rng]; omega) | (rw [hX']; omega)))) | ((with_reducible fail_if_success first | constructor | show False); conv => whnf)
            refine Need.mk (by rw [hz]; exact ((((Upd.start.d).c hcc).d).d).isL.off.ceq (by rw [List.length_set]; exact hlen.symm)) ?_
            repeat' first | (with_reducible first | refine wkI ?_ | exact ⟨⟩ | refine wkB (fun _ => ?_) fun _ => ?_ | refine wkT (fun _ => ?_) ?_ | first | refine wkX ?_ | (refine Need.mk ?_ ?_; (first | (rw [hX']; simp only [rng]; omega) | (rw [hX']; omega)))) | ((with_reducible refine wkC ?_ ?_); exact CEq.refl _) | ((with_reducible fail_if_success first | constructor | show False); conv => whnf)
          · rename_i h6
            have h6 := of_decide_eq_false h6
            have hz : lsE (srv ⟨xl, 3, xg⟩) 0 = slL 3 lnE (xl.set 3 ⟨(xl.getD 3 default).weight, gv ⟨xl, 3, xg⟩ - (xl.getD 3 default).costs.getD 0 default, (xl.getD 3 default).costs.drop 1⟩) := by
              show slL 3 lnE (xl.set 3 ⟨_, if (xl.getD 3 default).costs.drop 1 = [] then (0 : Int) else _, _⟩) = _
              rw [if_neg (fun e => by rw [e] at hdl; exact h6 (by rw [← hdl]; rfl))]; rfl
            rw [hg0] at hz
            refine Out.mk (hQ _ _ ?_)
            rw [hs]
            repeat' first | (with_reducible first | refine wkI ?_ | exact ⟨⟩ | refine wkB (fun _ => ?_) fun _ => ?_ | refine wkT (fun _ => ?_) ?_ | first | refine wkX ?_ | (refine Need.mk ?_ ?_; (first | (rw [hX']; simp only [rng]; omega) | (rw [hX']; omega)))) | ((with_reducible fail_if_success first | constructor | show False); conv => whnf)
            refine Need.mk (by rw [hz]; exact (((Upd.start.d).c hcc).d).isL.off.ceq (by rw [List.length_set]; exact hlen.symm)) ?_
            repeat' first | (with_reducible first | refine wkI ?_ | exact ⟨⟩ | refine wkB (fun _ => ?_) fun _ => ?_ | refine wkT (fun _ => ?_) ?_ | first | refine wkX ?_ | (refine Need.mk ?_ ?_; (first | (rw [hX']; simp only [rng]; omega) | (rw [hX']; omega)))) | ((with_reducible refine wkC ?_ ?_); exact CEq.refl _) | ((with_reducible fail_if_success first | constructor | show False); conv => whnf)
      · rename_i h3 h4
        have hne : 0 < (xl.getD 3 default).costs.length := by have := of_decide_eq_false h3; rw [hX'] at this; omega
        have hne' : (xl.getD 3 default).costs ≠ [] := fun e => by rw [e] at hne; simp at hne
        obtain rfl : xg = true := by simpa using h4
        have hg0 := hgt rfl
        repeat' first | (with_reducible first | refine wkI ?_ | exact ⟨⟩ | refine wkB (fun _ => ?_) fun _ => ?_ | refine wkT (fun _ => ?_) ?_ | first | refine wkX ?_ | (refine Need.mk ?_ ?_; (first | (rw [hX']; simp only [rng]; omega) | (rw [hX']; omega)))) | ((with_reducible fail_if_success first | constructor | show False); conv => whnf)
        · rename_i h5
          have h5 := of_decide_eq_true h5
          obtain ⟨m, hm1, hm2, hm3, hm4, hm5⟩ := adv_h (xl.getD 3 default).deficit (by omega) (.inr ⟨hne', by rw [hg0, hhd]; exact h5, hg0.symm⟩)
          refine LoopEnd.mk ⟨m, hm1, hm2, ?_⟩
          rw [hm3, hm4, hm5]
          rw [setSelf]
          (refine Le.of ?_ ?_ <;> repeat' first | exact trivial | exact CEq.refl _ | exact rfl | exact cI (by push_cast; first | rfl | omega) | exact SubE.dat fun _ _ _ _ => CEq.refl _ | refine SubE.varN ?_ | refine Exists.intro _ (And.intro rfl ?_) | refine And.intro ?_ ?_)
        · rename_i h5
          have h5 := of_decide_eq_false h5
          have hs := srv_h hne' (by rw [hg0, hhd]; exact h5)
          refine CallVC.mk' (fun _ => sl_Clone_int_ok K.m K.cloneI ((xl.getD 3 default).costs.length - 1) (fun i j => intE (((xl.getD 3 default).costs.drop 1).getD i default) j) (by omega)) (fun _ => .cons (.one (CEq.slice fun i hi j hj => ?_)) .nil) ?_
          · rw [List.getD_eq_getElem?_getD (l := (xl.getD 3 default).costs.drop 1), List.getElem?_drop, ← List.getD_eq_getElem?_getD]
            exact CEq.refl _
          have hc1 : 1 ≤ (xl.getD 3 default).costs.getD (Int.toNat 0) default ∧ (xl.getD 3 default).costs.getD (Int.toNat 0) default ≤ 8 := cc _ (getD_mem hne)
          have hdl : ((xl.getD 3 default).costs.drop 1).length = (xl.getD 3 default).costs.length - 1 := List.length_drop ..
          have hcc : CEq (Cell.sl 1 ((xl.getD 3 default).costs.length - 1) fun i j => (fun i j => intE (((xl.getD 3 default).costs.drop 1).getD i default) j) (addN 0 i) j) (slL 1 intE ((xl.getD 3 default).costs.drop 1)) := IsL.refl.off.ceq hdl.symm
          repeat' first | (with_reducible first | refine wkI ?_ | exact ⟨⟩ | refine wkB (fun _ => ?_) fun _ => ?_ | refine wkT (fun _ => ?_) ?_ | first | refine wkX ?_ | (refine Need.mk ?_ ?_; (first | (rw [hX']; simp only [rng]; omega) | (rw [hX']; omega)))) | ((with_reducible fail_if_success first | constructor | show False); conv => whnf)
          · rename_i h6
            have h6 := of_decide_eq_true h6
            have hz : lsE (srv ⟨xl, 3, true⟩) 0 = slL 3 lnE (xl.set 3 ⟨(xl.getD 3 default).weight, 0, (xl.getD 3 default).costs.drop 1⟩) := by
              show slL 3 lnE (xl.set 3 ⟨_, if (xl.getD 3 default).costs.drop 1 = [] then (0 : Int) else _, _⟩) = _
              rw [if_pos (List.length_eq_zero_iff.1 (by omega))]; rfl
            refine Out.mk (hQ _ _ ?_)
            rw [hs]
            repeat' first | (with_reducible first | refine wkI ?_ | exact ⟨⟩ | refine wkB (fun _ => ?_) fun _ => ?_ | refine wkT (fun _ => ?_) ?_ | first | refine wkX ?_ | (refine Need.mk ?_ ?_; (first | (rw [hX']; simp only [rng]; omega) | (rw [hX']; omega)))) | ((with_reducible fail_if_success first | constructor | show False); conv => whnf)
            refine Need.mk (by rw [hz]; exact (((Upd.start.c hcc).d).d).isL.off.ceq (by rw [List.length_set]; exact hlen.symm)) ?_
            repeat' first | (with_reducible first | refine wkI ?_ | exact ⟨⟩ | refine wkB (fun _ => ?_) fun _ => ?_ | refine wkT (fun _ => ?_) ?_ | first | refine wkX ?_ | (refine Need.mk ?_ ?_; (first | (rw [hX']; simp only [rng]; omega) | (rw [hX']; omega)))) | ((with_reducible refine wkC ?_ ?_); exact CEq.refl _) | ((with_reducible fail_if_success first | constructor | show False); conv => whnf)
          · rename_i h6
            have h6 := of_decide_eq_false h6
            have hz : lsE (srv ⟨xl, 3, true⟩) 0 = slL 3 lnE (xl.set 3 ⟨(xl.getD 3 default).weight, gv ⟨xl, 3, true⟩ - (xl.getD 3 default).costs.getD 0 default, (xl.getD 3 default).costs.drop 1⟩) := by
              show slL 3 lnE (xl.set 3 ⟨_, if (xl.getD 3 default).costs.drop 1 = [] then (0 : Int) else _, _⟩) = _
              rw [if_neg (fun e => by rw [e] at hdl; exact h6 (by rw [← hdl]; rfl))]; rfl
            rw [hg0] at hz
            refine Out.mk (hQ _ _ ?_)
            rw [hs]
            repeat' first | (with_reducible first | refine wkI ?_ | exact ⟨⟩ | refine wkB (fun _ => ?_) fun _ => ?_ | refine wkT (fun _ => ?_) ?_ | first | refine wkX ?_ | (refine Need.mk ?_ ?_; (first | (rw [hX']; simp only [rng]; omega) | (rw [hX']; omega)))) | ((with_reducible fail_if_success first | constructor | show False); conv => whnf)
            refine Need.mk (by rw [hz]; exact ((Upd.start.c hcc).d).isL.off.ceq (by rw [List.length_set]; exact hlen.symm)) ?_
            repeat' first | (with_reducible first | refine wkI ?_ | exact ⟨⟩ | refine wkB (fun _ => ?_) fun _ => ?_ | refine wkT (fun _ => ?_) ?_ | first | refine wkX ?_ | (refine Need.mk ?_ ?_; (first | (rw [hX']; simp only [rng]; omega) | (rw [hX']; omega)))) | ((with_reducible refine wkC ?_ ?_); exact CEq.refl _) | ((with_reducible fail_if_success first | constructor | show False); conv => whnf)
    · obtain ⟨rfl, rfl⟩ := hcx 4 rfl
      clear hcx
      have hX' : xl.getD (addN 0 (Int.toNat 4)) default = xl.getD 4 default := rfl
      have hmx : (xl.getD 4 default).deficit ≤ 39 := Int.le_trans d2 hm
      dsimp only
      repeat' first | (with_reducible first | refine wkI ?_ | exact ⟨⟩ | refine wkB (fun _ => ?_) fun _ => ?_ | refine wkT (fun _ => ?_) ?_ | first | refine wkX ?_ | (refine Need.mk ?_ ?_; (first | (rw [hX']; simp only [rng]; omega) | (rw [hX']; omega)))) | ((with_reducible fail_if_success first | constructor | show False); conv => whnf)
      · rename_i h3
        have h3 : (xl.getD 4 default).costs = [] := List.length_eq_zero_iff.1 (by have := of_decide_eq_true h3; rw [hX'] at this; omega)
        obtain ⟨m, hm1, hm2, hm3, hm4, hm5⟩ := adv_h 0 (by decide) (.inl ⟨h3, rfl⟩)
        refine LoopEnd.mk ⟨m, hm1, hm2, ?_⟩
        rw [hm3, hm4, hm5]
        (refine Le.of ?_ ?_ <;> repeat' first | exact trivial | exact CEq.refl _ | exact rfl | exact cI (by push_cast; first | rfl | omega) | exact SubE.dat fun _ _ _ _ => CEq.refl _ | refine SubE.varN ?_ | refine Exists.intro _ (And.intro rfl ?_) | refine And.intro ?_ ?_)
        exact (IsL.def IsL.refl).sub (by rw [List.length_set]; exact hlen.symm)
      · rename_i h3 h4
        have hne : 0 < (xl.getD 4 default).costs.length := by have := of_decide_eq_false h3; rw [hX'] at this; omega
        have hne' : (xl.getD 4 default).costs ≠ [] := fun e => by rw [e] at hne; simp at hne
        have hg0 := hgf (by simpa using h4)
        repeat' first | (with_reducible first | refine wkI ?_ | exact ⟨⟩ | refine wkB (fun _ => ?_) fun _ => ?_ | refine wkT (fun _ => ?_) ?_ | first | refine wkX ?_ | (refine Need.mk ?_ ?_; (first | (rw [hX']; simp only [rng]; omega) | (rw [hX']; omega)))) | ((with_reducible fail_if_success first | constructor | show False); conv => whnf)
        · rename_i h5
          have h5 := of_decide_eq_true h5
          obtain ⟨m, hm1, hm2, hm3, hm4, hm5⟩ := adv_h ((xl.getD 4 default).deficit + (xl.getD 4 default).weight * 4) (by omega) (.inr ⟨hne', by rw [hg0, hhd]; exact h5, hg0.symm⟩)
          refine LoopEnd.mk ⟨m, hm1, hm2, ?_⟩
          rw [hm3, hm4, hm5]
          (refine Le.of ?_ ?_ <;> repeat' first | exact trivial | exact CEq.refl _ | exact rfl | exact cI (by push_cast; first | rfl | omega) | exact SubE.dat fun _ _ _ _ => CEq.refl _ | refine SubE.varN ?_ | refine Exists.intro _ (And.intro rfl ?_) | refine And.intro ?_ ?_)
          exact (IsL.def IsL.refl).sub (by rw [List.length_set]; exact hlen.symm)
        · rename_i h5
          have h5 := of_decide_eq_false h5
          have hs := srv_h hne' (by rw [hg0, hhd]; exact h5)
          refine CallVC.mk' (fun _ => sl_Clone_int_ok K.m K.cloneI ((xl.getD 4 default).costs.length - 1) (fun i j => intE (((xl.getD 4 default).costs.drop 1).getD i default) j) (by omega)) (fun _ => .cons (.one (CEq.slice fun i hi j hj => ?_)) .nil) ?_
          · rw [List.getD_eq_getElem?_getD (l := (xl.getD 4 default).costs.drop 1), List.getElem?_drop, ← List.getD_eq_getElem?_getD]
            exact CEq.refl _
          have hc1 : 1 ≤ (xl.getD 4 default).costs.getD (Int.toNat 0) default ∧ (xl.getD 4 default).costs.getD (Int.toNat 0) default ≤ 8 := cc _ (getD_mem hne)
          have hdl : ((xl.getD 4 default).costs.drop 1).length = (xl.getD 4 default).costs.length - 1 := List.length_drop ..
          have hcc : CEq (Cell.sl 1 ((xl.getD 4 default).costs.length - 1) fun i j => (fun i j => intE (((xl.getD 4 default).costs.drop 1).getD i default) j) (addN 0 i) j) (slL 1 intE ((xl.getD 4 default).costs.drop 1)) := IsL.refl.off.ceq hdl.symm
          repeat' first | (with_reducible first | refine wkI ?_ | exact ⟨⟩ | refine wkB (fun _ => ?_) fun _ => ?_ | refine wkT (fun _ => ?_) ?_ | first | refine wkX ?_ | (refine Need.mk ?_ ?_; (first | (rw [hX']; simp only [rng]; omega) | (rw [hX']; omega)))) | ((with_reducible fail_if_success first | constructor | show False); conv => whnf)
          · rename_i h6
            have h6 := of_decide_eq_true h6
            have hz : lsE (srv ⟨xl, 4, xg⟩) 0 = slL 3 lnE (xl.set 4 ⟨(xl.getD 4 default).weight, 0, (xl.getD 4 default).costs.drop 1⟩) := by
              show slL 3 lnE (xl.set 4 ⟨_, if (xl.getD 4 default).costs.drop 1 = [] then (0 : Int) else _, _⟩) = _
              rw [if_pos (List.length_eq_zero_iff.1 (by omega))]; rfl
            refine Out.mk (hQ _ _ ?_)
            rw [hs]
            repeat' first | (with_reducible first | refine wkI ?_ | exact ⟨⟩ | refine wkB (fun _ => ?_) fun _ => ?_ | refine wkT (fun _ => ?_) ?_ | first | refine wkX ?_ | (refine Need.mk ?_ ?_; (first | (rw [hX']; simp only [rng]; omega) | (rw [hX']; omega)))) | ((with_reducible fail_if_success first | constructor | show False); conv => whnf)
            refine Need.mk (by rw [hz]; exact ((((Upd.start.d).c hcc).d).d).isL.off.ceq (by rw [List.length_set]; exact hlen.symm)) ?_
            repeat' first | (with_reducible first | refine wkI ?_ | exact ⟨⟩ | refine wkB (fun _ => ?_) fun _ => ?_ | refine wkT (fun _ => ?_) ?_ | first | refine wkX ?_ | (refine Need.mk ?_ ?_; (first | (rw [hX']; simp only [rng]; omega) | (rw [hX']; omega)))) | ((with_reducible refine wkC ?_ ?_); exact CEq.refl _) | ((with_reducible fail_if_success first | constructor | show False); conv => whnf)
          · rename_i h6
            have h6 := of_decide_eq_false h6
            have hz : lsE (srv ⟨xl, 4, xg⟩) 0 = slL 3 lnE (xl.set 4 ⟨(xl.getD 4 default).weight, gv ⟨xl, 4, xg⟩ - (xl.getD 4 default).costs.getD 0 default, (xl.getD 4 default).costs.drop 1⟩) := by
              show slL 3 lnE (xl.set 4 ⟨_, if (xl.getD 4 default).costs.drop 1 = [] then (0 : Int) else _, _⟩) = _
              rw [if_neg (fun e => by rw [e] at hdl; exact h6 (by rw [← hdl]; rfl))]; rfl
            rw [hg0] at hz
            refine Out.mk (hQ _ _ ?_)
            rw [hs]
            repeat' first | (with_reducible first | refine wkI ?_ | exact ⟨⟩ | refine wkB (fun _ => ?_) fun _ => ?_ | refine wkT (fun _ => ?_) ?_ | first | refine wkX ?_ | (refine Need.mk ?_ ?_; (first | (rw [hX']; simp only [rng]; omega) | (rw [hX']; omega)))) | ((with_reducible fail_if_success first | constructor | show False); conv => whnf)
            refine Need.mk (by rw [hz]; exact (((Upd.start.d).c hcc).d).isL.off.ceq (by rw [List.length_set]; exact hlen.symm)) ?_
            repeat' first | (with_reducible first | refine wkI ?_ | exact ⟨⟩ | refine wkB (fun _ => ?_) fun _ => ?_ | refine wkT (fun _ => ?_) ?_ | first | refine wkX ?_ | (refine Need.mk ?_ ?_; (first | (rw [hX']; simp only [rng]; omega) | (rw [hX']; omega)))) | ((with_reducible refine wkC ?_ ?_); exact CEq.refl _) | ((with_reducible fail_if_success first | constructor | show False); conv => whnf)
      · rename_i h3 h4
        have hne : 0 < (xl.getD 4 default).costs.length := by have := of_decide_eq_false h3; rw [hX'] at this; omega
        have hne' : (xl.getD 4 default).costs ≠ [] := fun e => by rw [e] at hne; simp at hne
        obtain rfl : xg = true := by simpa using h4
        have hg0 := hgt rfl
        repeat' first | (with_reducible first | refine wkI ?_ | exact ⟨⟩ | refine wkB (fun _ => ?_) fun _ => ?_ | refine wkT (fun _ => ?_) ?_ | first | refine wkX ?_ | (refine Need.mk ?_ ?_; (first | (rw [hX']; simp only [rng]; omega) | (rw [hX']; omega)))) | ((with_reducible fail_if_success first | constructor | show False); conv => whnf)
        · rename_i h5
          have h5 := of_decide_eq_true h5
          obtain ⟨m, hm1, hm2, hm3, hm4, hm5⟩ := adv_h (xl.getD 4 default).deficit (by omega) (.inr ⟨hne', by rw [hg0, hhd]; exact h5, hg0.symm⟩)
          refine LoopEnd.mk ⟨m, hm1, hm2, ?_⟩
          rw [hm3, hm4, hm5]
          rw [setSelf]
          (refine Le.of ?_ ?_ <;> repeat' first | exact trivial | exact CEq.refl _ | exact rfl | exact cI (by push_cast; first | rfl | omega) | exact SubE.dat fun _ _ _ _ => CEq.refl _ | refine SubE.varN ?_ | refine Exists.intro _ (And.intro rfl ?_) | refine And.intro ?_ ?_)
        · rename_i h5
          have h5 := of_decide_eq_false h5
          have hs := srv_h hne' (by rw [hg0, hhd]; exact h5)
          refine CallVC.mk' (fun _ => sl_Clone_int_ok K.m K.cloneI ((xl.getD 4 default).costs.length - 1) (fun i j => intE (((xl.getD 4 default).costs.drop 1).getD i default) j) (by omega)) (fun _ => .cons (.one (CEq.slice fun i hi j hj => ?_)) .nil) ?_
          · rw [List.getD_eq_getElem?_getD (l := (xl.getD 4 default).costs.drop 1), List.getElem?_drop, ← List.getD_eq_getElem?_getD]
            exact CEq.refl _
          have hc1 : 1 ≤ (xl.getD 4 default).costs.getD (Int.toNat 0) default ∧ (xl.getD 4 default).costs.getD (Int.toNat 0) default ≤ 8 := cc _ (getD_mem hne)
          have hdl : ((xl.getD 4 default).costs.drop 1).length = (xl.getD 4 default).costs.length - 1 := List.length_drop ..
          have hcc : CEq (Cell.sl 1 ((xl.getD 4 default).costs.length - 1) fun i j => (fun i j => intE (((xl.getD 4 default).costs.drop 1).getD i default) j) (addN 0 i) j) (slL 1 intE ((xl.getD 4 default).costs.drop 1)) := IsL.refl.off.ceq hdl.symm
          repeat' first | (with_reducible first | refine wkI ?_ | exact ⟨⟩ | refine wkB (fun _ => ?_) fun _ => ?_ | refine wkT (fun _ => ?_) ?_ | first | refine wkX ?_ | (refine Need.mk ?_ ?_; (first | (rw [hX']; simp only [rng]; omega) | (rw [hX']; omega)))) | ((with_reducible fail_if_success first | constructor | show False); conv => whnf)
          · rename_i h6
            have h6 := of_decide_eq_true h6
            have hz : lsE (srv ⟨xl, 4, true⟩) 0 = slL 3 lnE (xl.set 4 ⟨(xl.getD 4 default).weight, 0, (xl.getD 4 default).costs.drop 1⟩) := by
              show slL 3 lnE (xl.set 4 ⟨_, if (xl.getD 4 default).costs.drop 1 = [] then (0 : Int) else _, _⟩) = _
              rw [if_pos (List.length_eq_zero_iff.1 (by omega))]; rfl
            refine Out.mk (hQ _ _ ?_)
            rw [hs]
            repeat' first | (with_reducible first | refine wkI ?_ | exact ⟨⟩ | refine wkB (fun _ => ?_) fun _ => ?_ | refine wkT (fun _ => ?_) ?_ | first | refine wkX ?_ | (refine Need.mk ?_ ?_; (first | (rw [hX']; simp only [rng]; omega) | (rw [hX']; omega)))) | ((with_reducible fail_if_success first | constructor | show False); conv => whnf)
            refine Need.mk (by rw [hz]; exact (((Upd.start.c hcc).d).d).isL.off.ceq (by rw [List.length_set]; exact hlen.symm)) ?_
            repeat' first | (with_reducible first | refine wkI ?_ | exact ⟨⟩ | refine wkB (fun _ => ?_) fun _ => ?_ | refine wkT (fun _ => ?_) ?_ | first | refine wkX ?_ | (refine Need.mk ?_ ?_; (first | (rw [hX']; simp only [rng]; omega) | (rw [hX']; omega)))) | ((with_reducible refine wkC ?_ ?_); exact CEq.refl _) | ((with_reducible fail_if_success first | constructor | show False); conv => whnf)
          · rename_i h6
            have h6 := of_decide_eq_false h6
            have hz : lsE (srv ⟨xl, 4, true⟩) 0 = slL 3 lnE (xl.set 4 ⟨(xl.getD 4 default).weight, gv ⟨xl, 4, true⟩ - (xl.getD 4 default).costs.getD 0 default, (xl.getD 4 default).costs.drop 1⟩) := by
              show slL 3 lnE (xl.set 4 ⟨_, if (xl.getD 4 default).costs.drop 1 = [] then (0 : Int) else _, _⟩) = _
              rw [if_neg (fun e => by rw [e] at hdl; exact h6 (by rw [← hdl]; rfl))]; rfl
            rw [hg0] at hz
            refine Out.mk (hQ _ _ ?_)
            rw [hs]
            repeat' first | (with_reducible first | refine wkI ?_ | exact ⟨⟩ | refine wkB (fun _ => ?_) fun _ => ?_ | refine wkT (fun _ => ?_) ?_ | first | refine wkX ?_ | (refine Need.mk ?_ ?_; (first | (rw [hX']; simp only [rng]; omega) | (rw [hX']; omega)))) | ((with_reducible fail_if_success first | constructor | show False); conv => whnf)
            refine Need.mk (by rw [hz]; exact ((Upd.start.c hcc).d).isL.off.ceq (by rw [List.length_set]; exact hlen.symm)) ?_
            repeat' first | (with_reducible first | refine wkI ?_ | exact ⟨⟩ | refine wkB (fun _ => ?_) fun _ => ?_ | refine wkT (fun _ => ?_) ?_ | first | refine wkX ?_ | (refine Need.mk ?_ ?_; (first | (rw [hX']; simp only [rng]; omega) | (rw [hX']; omega)))) | ((with_reducible refine wkC ?_ ?_); exact CEq.refl _) | ((with_reducible fail_if_success first | constructor | show False); conv => whnf)
    · obtain ⟨rfl, rfl⟩ := hcx 5 rfl
      clear hcx
      have hX' : xl.getD (addN 0 (Int.toNat 5)) default = xl.getD 5 default := rfl
      have hmx : (xl.getD 5 default).deficit ≤ 39 := Int.le_trans d2 hm
      dsimp only
      repeat' first | (with_reducible first | refine wkI ?_ | exact ⟨⟩ | refine wkB (fun _ => ?_) fun _ => ?_ | refine wkT (fun _ => ?_) ?_ | first | refine wkX ?_ | (refine Need.mk ?_ ?_; (first | (rw [hX']; simp only [rng]; omega) | (rw [hX']; omega)))) | ((with_reducible fail_if_success first | constructor | show False); conv => whnf)
      · rename_i h3
        have h3 : (xl.getD 5 default).costs = [] := List.length_eq_zero_iff.1 (by have := of_decide_eq_true h3; rw [hX'] at this; omega)
        obtain ⟨m, hm1, hm2, hm3, hm4, hm5⟩ := adv_h 0 (by decide) (.inl ⟨h3, rfl⟩)
        refine LoopEnd.mk ⟨m, hm1, hm2, ?_⟩
        rw [hm3, hm4, hm5]
        (refine Le.of ?_ ?_ <;> repeat' first | exact trivial | exact CEq.refl _ | exact rfl | exact cI (by push_cast; first | rfl | omega) | exact SubE.dat fun _ _ _ _ => CEq.refl _ | refine SubE.varN ?_ | refine Exists.intro _ (And.intro rfl ?_) | refine And.intro ?_ ?_)
        exact (IsL.def IsL.refl).sub (by rw [List.length_set]; exact hlen.symm)
      · rename_i h3 h4
        have hne : 0 < (xl.getD 5 default).costs.length := by have := of_decide_eq_false h3; rw [hX'] at this; omega
        have hne' : (xl.getD 5 default).costs ≠ [] := fun e => by rw [e] at hne; simp at hne
        have hg0 := hgf (by simpa using h4)
        repeat' first | (with_reducible first | refine wkI ?_ | exact ⟨⟩ | refine wkB (fun _ => ?_) fun _ => ?_ | refine wkT (fun _ => ?_) ?_ | first | refine wkX ?_ | (refine Need.mk ?_ ?_; (first | (rw [hX']; simp only [rng]; omega) | (rw [hX']; omega)))) | ((with_reducible fail_if_success first | constructor | show False); conv => whnf)
        · rename_i h5
          have h5 := of_decide_eq_true h5
          obtain ⟨m, hm1, hm2, hm3, hm4, hm5⟩ := adv_h ((xl.getD 5 default).deficit + (xl.getD 5 default).weight * 4) (by omega) (.inr ⟨hne', by rw [hg0, hhd]; exact h5, hg0.symm⟩)
          refine LoopEnd.mk ⟨m, hm1, hm2, ?_⟩
          rw [hm3, hm4, hm5]
          (refine Le.of ?_ ?_ <;> repeat' first | exact trivial | exact CEq.refl _ | exact rfl | exact cI (by push_cast; first | rfl | omega) | exact SubE.dat fun _ _ _ _ => CEq.refl _ | refine SubE.varN ?_ | refine Exists.intro _ (And.intro rfl ?_) | refine And.intro ?_ ?_)
          exact (IsL.def IsL.refl).sub (by rw [List.length_set]; exact hlen.symm)
        · rename_i h5
          have h5 := of_decide_eq_false h5
          have hs := srv_h hne' (by rw [hg0, hhd]; exact h5)
          refine CallVC.mk' (fun _ => sl_Clone_int_ok K.m K.cloneI ((xl.getD 5 default).costs.length - 1) (fun i j => intE (((xl.getD 5 default).costs.drop 1).getD i default) j) (by omega)) (fun _ => .cons (.one (CEq.slice fun i hi j hj => ?_)) .nil) ?_
          · rw [List.getD_eq_getElem?_getD (l := (xl.getD 5 default).costs.drop 1), List.getElem?_drop, ← List.getD_eq_getElem?_getD]
            exact CEq.refl _
          have hc1 : 1 ≤ (xl.getD 5 default).costs.getD (Int.toNat 0) default ∧ (xl.getD 5 default).costs.getD (Int.toNat 0) default ≤ 8 := cc _ (getD_mem hne)
          have hdl : ((xl.getD 5 default).costs.drop 1).length = (xl.getD 5 default).costs.length - 1 := List.length_drop ..
          have hcc : CEq (Cell.sl 1 ((xl.getD 5 default).costs.length - 1) fun i j => (fun i j => intE (((xl.getD 5 default).costs.drop 1).getD i default) j) (addN 0 i) j) (slL 1 intE ((xl.getD 5 default).costs.drop 1)) := IsL.refl.off.ceq hdl.symm
          repeat' first | (with_reducible first | refine wkI ?_ | exact ⟨⟩ | refine wkB (fun _ => ?_) fun _ => ?_ | refine wkT (fun _ => ?_) ?_ | first | refine wkX ?_ | (refine Need.mk ?_ ?_; (first | (rw [hX']; simp only [rng]; omega) | (rw [hX']; omega)))) | ((with_reducible fail_if_success first | constructor | show False); conv => whnf)
          · rename_i h6
            have h6 := of_decide_eq_true h6
            have hz : lsE (srv ⟨xl, 5, xg⟩) 0 = slL 3 lnE (xl.set 5 ⟨(xl.getD 5 default).weight, 0, (xl.getD 5 default).costs.drop 1⟩) := by
              show slL 3 lnE (xl.set 5 ⟨_, if (xl.getD 5 default).costs.drop 1 = [] then (0 : Int) else _, _⟩) = _
              rw [if_pos (List.length_eq_zero_iff.1 (by omega))]; rfl
            refine Out.mk (hQ _ _ ?_)
            rw [hs]
            repeat' first | (with_reducible first | refine wkI ?_ | exact ⟨⟩ | refine wkB (fun _ => ?_) fun _ => ?_ | refine wkT (fun _ => ?_) ?_ | first | refine wkX ?_ | (refine Need.mk ?_ ?_; (first | (rw [hX']; simp only [rng]; omega) | (rw [hX']; omega)))) | ((with_reducible fail_if_success first | constructor | show False); conv => whnf)
            refine Need.mk (by rw [hz]; exact ((((Upd.start.d).c hcc).d).d).isL.off.ceq (by rw [List.length_set]; exact hlen.symm)) ?_
            repeat' first | (with_reducible first | refine wkI ?_ | exact ⟨⟩ | refine wkB (fun _ => ?_) fun _ => ?_ | refine wkT (fun _ => ?_) ?_ | first | refine wkX ?_ | (refine Need.mk ?_ ?_; (first | (rw [hX']; simp only [rng]; omega) | (rw [hX']; omega)))) | ((with_reducible refine wkC ?_ ?_); exact CEq.refl _) | ((with_reducible fail_if_success first | constructor | show False); conv => whnf)
          · rename_i h6
            have h6 := of_decide_eq_false h6
            have hz : lsE (srv ⟨xl, 5, xg⟩) 0 = slL 3 lnE (xl.set 5 ⟨(xl.getD 5 default).weight, gv ⟨xl, 5, xg⟩ - (xl.getD 5 default).costs.getD 0 default, (xl.getD 5 default).costs.drop 1⟩) := by
              show slL 3 lnE (xl.set 5 ⟨_, if (xl.getD 5 default).costs.drop 1 = [] then (0 : Int) else _, _⟩) = _
              rw [if_neg (fun e => by rw [e] at hdl; exact h6 (by rw [← hdl]; rfl))]; rfl
            rw [hg0] at hz
            refine Out.mk (hQ _ _ ?_)
            rw [hs]
            repeat' first | (with_reducible first | refine wkI ?_ | exact ⟨⟩ | refine wkB (fun _ => ?_) fun _ => ?_ | refine wkT (fun _ => ?_) ?_ | first | refine wkX ?_ | (refine Need.mk ?_ ?_; (first | (rw [hX']; simp only [rng]; omega) | (rw [hX']; omega)))) | ((with_reducible fail_if_success first | constructor | show False); conv => whnf)
            refine Need.mk (by rw [hz]; exact (((Upd.start.d).c hcc).d).isL.off.ceq (by rw [List.length_set]; exact hlen.symm)) ?_
            repeat' first | (with_reducible first | refine wkI ?_ | exact ⟨⟩ | refine wkB (fun _ => ?_) fun _ => ?_ | refine wkT (fun _ => ?_) ?_ | first | refine wkX ?_ | (refine Need.mk ?_ ?_; (first | (rw [hX']; simp only [rng]; omega) | (rw [hX']; omega)))) | ((with_reducible refine wkC ?_ ?_); exact CEq.refl _) | ((with_reducible fail_if_success first | constructor | show False); conv => whnf)
      · rename_i h3 h4
        have hne : 0 < (xl.getD 5 default).costs.length := by have := of_decide_eq_false h3; rw [hX'] at this; omega
        have hne' : (xl.getD 5 default).costs ≠ [] := fun e => by rw [e] at hne; simp at hne
        obtain rfl : xg = true := by simpa using h4
        have hg0 := hgt rfl
        repeat' first | (with_reducible first | refine wkI ?_ | exact ⟨⟩ | refine wkB (fun _ => ?_) fun _ => ?_ | refine wkT (fun _ => ?_) ?_ | first | refine wkX ?_ | (refine Need.mk ?_ ?_; (first | (rw [hX']; simp only [rng]; omega) | (rw [hX']; omega)))) | ((with_reducible fail_if_success first | constructor | show False); conv => whnf)
        · rename_i h5
          have h5 := of_decide_eq_true h5
          obtain ⟨m, hm1, hm2, hm3, hm4, hm5⟩ := adv_h (xl.getD 5 default).deficit (by omega) (.inr ⟨hne', by rw [hg0, hhd]; exact h5, hg0.symm⟩)
          refine LoopEnd.mk ⟨m, hm1, hm2, ?_⟩
          rw [hm3, hm4, hm5]
          rw [setSelf]
          (refine Le.of ?_ ?_ <;> repeat' first | exact trivial | exact CEq.refl _ | exact rfl | exact cI (by push_cast; first | rfl | omega) | exact SubE.dat fun _ _ _ _ => CEq.refl _ | refine SubE.varN ?_ | refine Exists.intro _ (And.intro rfl ?_) | refine And.intro ?_ ?_)
        · rename_i h5
          have h5 := of_decide_eq_false h5
          have hs := srv_h hne' (by rw [hg0, hhd]; exact h5)
          refine CallVC.mk' (fun _ => sl_Clone_int_ok K.m K.cloneI ((xl.getD 5 default).costs.length - 1) (fun i j => intE (((xl.getD 5 default).costs.drop 1).getD i default) j) (by omega)) (fun _ => .cons (.one (CEq.slice fun i hi j hj => ?_)) .nil) ?_
          · rw [List.getD_eq_getElem?_getD (l := (xl.getD 5 default).costs.drop 1), List.getElem?_drop, ← List.getD_eq_getElem?_getD]
            exact CEq.refl _
          have hc1 : 1 ≤ (xl.getD 5 default).costs.getD (Int.toNat 0) default ∧ (xl.getD 5 default).costs.getD (Int.toNat 0) default ≤ 8 := cc _ (getD_mem hne)
          have hdl : ((xl.getD 5 default).costs.drop 1).length = (xl.getD 5 default).costs.length - 1 := List.length_drop ..
          have hcc : CEq (Cell.sl 1 ((xl.getD 5 default).costs.length - 1) fun i j => (fun i j => intE (((xl.getD 5 default).costs.drop 1).getD i default) j) (addN 0 i) j) (slL 1 intE ((xl.getD 5 default).costs.drop 1)) := IsL.refl.off.ceq hdl.symm
          repeat' first | (with_reducible first | refine wkI ?_ | exact ⟨⟩ | refine wkB (fun _ => ?_) fun _ => ?_ | refine wkT (fun _ => ?_) ?_ | first | refine wkX ?_ | (refine Need.mk ?_ ?_; (first | (rw [hX']; simp only [rng]; omega) | (rw [hX']; omega)))) | ((with_reducible fail_if_success first | constructor | show False); conv => whnf)
          · rename_i h6
            have h6 := of_decide_eq_true h6
            have hz : lsE (srv ⟨xl, 5, true⟩) 0 = slL 3 lnE (xl.set 5 ⟨(xl.getD 5 default).weight, 0, (xl.getD 5 default).costs.drop 1⟩) := by
              show slL 3 lnE (xl.set 5 ⟨_, if (xl.getD 5 default).costs.drop 1 = [] then (0 : Int) else _, _⟩) = _
              rw [if_pos (List.length_eq_zero_iff.1 (by omega))]; rfl
            refine Out.mk (hQ _ _ ?_)
            rw [hs]
            repeat' first | (with_reducible first | refine wkI ?_ | exact ⟨⟩ | refine wkB (fun _ => ?_) fun _ => ?_ | refine wkT (fun _ => ?_) ?_ | first | refine wkX ?_ | (refine Need.mk ?_ ?_; (first | (rw [hX']; simp only [rng]; omega) | (rw [hX']; omega)))) | ((with_reducible fail_if_success first | constructor | show False); conv => whnf)
            refine Need.mk (by rw [hz]; exact (((Upd.start.c hcc).d).d).isL.off.ceq (by rw [List.length_set]; exact hlen.symm)) ?_
            repeat' first | (with_reducible first | refine wkI ?_ | exact ⟨⟩ | refine wkB (fun _ => ?_) fun _ => ?_ | refine wkT (fun _ => ?_) ?_ | first | refine wkX ?_ | (refine Need.mk ?_ ?_; (first | (rw [hX']; simp only [rng]; omega) | (rw [hX']; omega)))) | ((with_reducible refine wkC ?_ ?_); exact CEq.refl _) | ((with_reducible fail_if_success first | constructor | show False); conv => whnf)
          · rename_i h6
            have h6 := of_decide_eq_false h6
            have hz : lsE (srv ⟨xl, 5, true⟩) 0 = slL 3 lnE (xl.set 5 ⟨(xl.getD 5 default).weight, gv ⟨xl, 5, true⟩ - (xl.getD 5 default).costs.getD 0 default, (xl.getD 5 default).costs.drop 1⟩) := by
              show slL 3 lnE (xl.set 5 ⟨_, if (xl.getD 5 default).costs.drop 1 = [] then (0 : Int) else _, _⟩) = _
              rw [if_neg (fun e => by rw [e] at hdl; exact h6 (by rw [← hdl]; rfl))]; rfl
            rw [hg0] at hz
            refine Out.mk (hQ _ _ ?_)
            rw [hs]
            repeat' first | (with_reducible first | refine wkI ?_ | exact ⟨⟩ | refine wkB (fun _ => ?_) fun _ => ?_ | refine wkT (fun _ => ?_) ?_ | first | refine wkX ?_ | (refine Need.mk ?_ ?_; (first | (rw [hX']; simp only [rng]; omega) | (rw [hX']; omega)))) | ((with_reducible fail_if_success first | constructor | show False); conv => whnf)
            refine Need.mk (by rw [hz]; exact ((Upd.start.c hcc).d).isL.off.ceq (by rw [List.length_set]; exact hlen.symm)) ?_
            repeat' first | (with_reducible first | refine wkI ?_ | exact ⟨⟩ | refine wkB (fun _ => ?_) fun _ => ?_ | refine wkT (fun _ => ?_) ?_ | first | refine wkX ?_ | (refine Need.mk ?_ ?_; (first | (rw [hX']; simp only [rng]; omega) | (rw [hX']; omega)))) | ((with_reducible refine wkC ?_ ?_); exact CEq.refl _) | ((with_reducible fail_if_success first | constructor | show False); conv => whnf)
end
end Lk.S05
namespace Lk.S05
open Go Lk Lk.C
structure K05 (P : Program) (F : Nat → Nat) : Prop where
  k : KLn P F
  awake : law05_awake_k P F
def a0 : Ls := newL [1, 2]
def a1 : Ls := pushL a0 0 4
def a2 : Ls := pushL a1 1 8
def a3 : Ls := nextL a2
def a4 : Ls := nextL a3
theorem right.tiny {l : Ls} (h : right l) : Tiny l := ⟨by have := h.1.2; omega, fun x hx => by
  obtain ⟨i, hi, rfl⟩ := List.mem_iff_getElem.1 hx
  have := (h.2.2 i hi).2.2.1
  rw [getD_eq hi] at this; omega⟩
section
variable {P : Program} {F : Nat → Nat}
theorem awake_ok (K : K05 P F) : FnOk P (F 81) [] [.one (.im (.bool true))] := by
  refine fnOk K.k.m K.awake ?_
  have r0 : right a0 := by decide +kernel
  have r1 : right a1 := by decide +kernel
  have r2 : right a2 := by decide +kernel
  have r3 : right a3 := by decide +kernel
  have r4 : right a4 := by decide +kernel
  have e0 : newE [1, 2] = 0 := by decide +kernel
  have e1 : pushE a0 0 4 = 0 := by decide +kernel
  have e2 : pushE a1 1 8 = 0 := by decide +kernel
  have n2 : nextOk a2 := by decide +kernel
  have n3 : nextOk a3 := by decide +kernel
  have n4 : ¬ nextOk a4 := by decide +kernel
  have x2 : nextA a2 = 0 ∧ nextC a2 = 4 := by decide +kernel
  have x3 : nextA a3 = 1 ∧ nextC a3 = 8 := by decide +kernel
  repeat' first | (with_reducible first | refine wkI ?_ | exact ⟨⟩ | refine wkB (fun _ => ?_) fun _ => ?_ | refine wkT (fun _ => ?_) ?_ | refine wkS ?_) | ((with_reducible refine wkC ?_ ?_); exact CEq.refl _) | ((with_reducible fail_if_success first | constructor | show False); conv => whnf)
  refine CallVC.mk' (fun _ => new_ok K.k [1, 2] (by decide)) (fun _ => .cons (.one (IsL.ceq (l := [1, 2]) (fun i hi j hj => by (obtain rfl : j = 0 := (by omega)); (rcases (show i = 0 ∨ i = 1 by (have hi : i < 2 := hi; omega)) with rfl | rfl <;> exact CEq.refl _)) rfl)) .nil) ?_
  rw [e0, show newL [1, 2] = a0 from rfl]
  have y1 : pushL a0 0 4 = a1 := rfl
  generalize a0 = b0 at *
  repeat' first | (with_reducible first | refine wkI ?_ | exact ⟨⟩ | refine wkB (fun _ => ?_) fun _ => ?_ | refine wkT (fun _ => ?_) ?_ | refine wkS ?_) | ((with_reducible refine wkC ?_ ?_); exact CEq.refl _) | ((with_reducible fail_if_success first | constructor | show False); conv => whnf)
  refine CallVC.mk' (fun _ => push_ok K.k b0 0 4 r0.tiny) (fun _ => .cons ((mC3 (by rfl))) (.cons (.one (CEq.refl _)) (.cons (.one (CEq.refl _)) .nil))) ?_
  rw [e1, y1]
  have y2 : pushL a1 1 8 = a2 := rfl
  clear y1
  generalize a1 = b1 at *
  repeat' first | (with_reducible first | refine wkI ?_ | exact ⟨⟩ | refine wkB (fun _ => ?_) fun _ => ?_ | refine wkT (fun _ => ?_) ?_ | refine wkS ?_) | ((with_reducible refine wkC ?_ ?_); exact CEq.refl _) | ((with_reducible fail_if_success first | constructor | show False); conv => whnf)
  refine CallVC.mk' (fun _ => push_ok K.k b1 1 8 r1.tiny) (fun _ => .cons ((mC3 (by rfl))) (.cons (.one (CEq.refl _)) (.cons (.one (CEq.refl _)) .nil))) ?_
  rw [e2, y2]
  have y3 : nextL a2 = a3 := rfl
  clear y2
  generalize a2 = b2 at *
  repeat' first | (with_reducible first | refine wkI ?_ | exact ⟨⟩ | refine wkB (fun _ => ?_) fun _ => ?_ | refine wkT (fun _ => ?_) ?_ | refine wkS ?_) | ((with_reducible refine wkC ?_ ?_); exact CEq.refl _) | ((with_reducible fail_if_success first | constructor | show False); conv => whnf)
  refine CallVC.mk' (fun _ => next_ok K.k b2 r2.tiny) (fun _ => .cons ((mC3 (by rfl))) .nil) ?_
  rw [y3, x2.1, x2.2, decide_eq_true n2]
  have y4 : nextL a3 = a4 := rfl
  clear y3
  generalize a3 = b3 at *
  repeat' first | (with_reducible first | refine wkI ?_ | exact ⟨⟩ | refine wkB (fun _ => ?_) fun _ => ?_ | refine wkT (fun _ => ?_) ?_ | refine wkS ?_) | ((with_reducible refine wkC ?_ ?_); exact CEq.refl _) | ((with_reducible fail_if_success first | constructor | show False); conv => whnf)
  refine CallVC.mk' (fun _ => next_ok K.k b3 r3.tiny) (fun _ => .cons ((mC3 (by rfl))) .nil) ?_
  rw [y4, x3.1, x3.2, decide_eq_true n3]
  clear y4
  generalize a4 = b4 at *
  repeat' first | (with_reducible first | refine wkI ?_ | exact ⟨⟩ | refine wkB (fun _ => ?_) fun _ => ?_ | refine wkT (fun _ => ?_) ?_ | refine wkS ?_) | ((with_reducible refine wkC ?_ ?_); exact CEq.refl _) | ((with_reducible fail_if_success first | constructor | show False); conv => whnf)
  refine CallVC.mk' (fun _ => next_ok K.k b4 r4.tiny) (fun _ => .cons ((mC3 (by rfl))) .nil) ?_
  rw [decide_eq_false n4]
  repeat' first | (with_reducible first | refine wkI ?_ | exact ⟨⟩ | refine wkB (fun _ => ?_) fun _ => ?_ | refine wkT (fun _ => ?_) ?_ | refine wkS ?_) | ((with_reducible refine wkC ?_ ?_); exact CEq.refl _) | ((with_reducible fail_if_success first | constructor | show False); conv => whnf)
  refine CallVC.mk' (fun _ => right_ok K.k.m K.k.right b4 r4.tiny) (fun _ => .cons ((mC3 (by rfl))) .nil) ?_
  rw [decide_eq_true r4]
  repeat' first | (with_reducible first | refine wkI ?_ | exact ⟨⟩ | refine wkB (fun _ => ?_) fun _ => ?_ | refine wkT (fun _ => ?_) ?_ | refine wkS ?_) | ((with_reducible refine wkC ?_ ?_); exact CEq.refl _) | ((with_reducible fail_if_success first | constructor | show False); conv => whnf)
end
end Lk.S05
