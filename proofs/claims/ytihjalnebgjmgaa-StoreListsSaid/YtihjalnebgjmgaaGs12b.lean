/-
  Gs12b: what these chapters need.
-/
import Derived.Test.YtihjalnebgjmgaaGs12a
set_option linter.unusedSimpArgs false
set_option linter.unusedVariables false
namespace Lk.S12
open Go Lk Lk.C Lk.S03
section
variable {P : Program} {F : Nat → Nat}
set_option maxHeartbeats 8000000 in
set_option maxRecDepth 100000 in
theorem rsame_ok (R : KR12 P F) (a b : List Op) (ha : a.length ≤ 1000000) (hb : b.length ≤ 1000000) : FnOk P (F 104) [.one (slL 3 opE a), .one (slL 3 opE b)] [.one (.im (.bool (decide (a = b))))] := by
  refine fnOk R.r.m R.same ?_
  repeat' first
    | (with_reducible first | refine NeedI.mk (fun h => h) ?_ | refine NeedI.mk (fun h => h.2) ?_ | refine NeedI.mk (fun h => h.1) ?_ | exact Done.mk | refine Both.mk (fun _ => ?_) (fun _ => ?_) | refine Both2.mk (fun _ => ?_) ?_ | refine Need.mk (by first | omega | with_reducible exact CEq.refl _ | (dsimp only; omega) | (dsimp only [rng]; omega) | (simp only [decide_eq_true_eq, decide_eq_false_iff_not, Bool.or_eq_true, Bool.and_eq_true, Bool.or_eq_false_iff, Int.toNat_natCast, addN_eq, cond_false, cond_true, rng] at *; omega) | exact ⟨rfl, rfl⟩) ?_)
    | ((with_reducible refine Need.mk ?_ ?_); exact CEq.refl _)
    | ((with_reducible fail_if_success first | refine LoopVC.mk ?_ | refine Need.mk ?_ ?_ | refine CallVC.mk ?_ | refine LoopEnd.mk ?_ | refine Out.mk ?_ | show False | refine NeedI.mk ?_ ?_); conv => whnf)
  · rename_i h
    have h : a.length ≠ b.length := by simp at h; omega
    rw [decide_eq_false (fun e => h (by rw [e]))]
    repeat' first
      | (with_reducible first | refine NeedI.mk (fun h => h) ?_ | refine NeedI.mk (fun h => h.2) ?_ | refine NeedI.mk (fun h => h.1) ?_ | exact Done.mk | refine Both.mk (fun _ => ?_) (fun _ => ?_) | refine Both2.mk (fun _ => ?_) ?_ | refine Need.mk (by first | omega | with_reducible exact CEq.refl _ | (dsimp only; omega) | (dsimp only [rng]; omega) | (simp only [decide_eq_true_eq, decide_eq_false_iff_not, Bool.or_eq_true, Bool.and_eq_true, Bool.or_eq_false_iff, Int.toNat_natCast, addN_eq, cond_false, cond_true, rng] at *; omega) | exact ⟨rfl, rfl⟩) ?_)
      | ((with_reducible refine Need.mk ?_ ?_); exact CEq.refl _)
      | ((with_reducible fail_if_success first | refine LoopVC.mk ?_ | refine Need.mk ?_ ?_ | refine CallVC.mk ?_ | refine LoopEnd.mk ?_ | refine Out.mk ?_ | show False | refine NeedI.mk ?_ ?_); conv => whnf)
  · rename_i h
    have h : a.length = b.length := by simp at h; omega
    refine LoopVC.inv (fun i : Nat => i ≤ a.length ∧ ∀ k, k < i → a.getD k default = b.getD k default) (fun i => stL [(0, .c (slL 3 opE a)), (1, .c (slL 3 opE b)), (5, .c (.int .i64 i))] []) (fun i => a.length - i) 0 ⟨by omega, fun k hk => by omega⟩ (by (refine Le.of ?_ ?_ <;> repeat' first | exact trivial | exact CEq.refl _ | exact rfl | exact cI (by push_cast; first | rfl | omega) | exact SubE.dat fun _ _ _ _ => CEq.refl _ | refine SubE.var2 ?_ ?_ | refine SubE.var1 ?_ | refine SubE.var3 ?_ ?_ ?_ | refine SubE.var4 ?_ ?_ ?_ ?_ | refine SubE.var5 ?_ ?_ ?_ ?_ ?_ | refine Exists.intro _ (And.intro rfl ?_) | refine And.intro ?_ ?_)) ?_
    rintro Q hQ i ⟨hi, hn⟩
    repeat' first
      | (with_reducible first | refine NeedI.mk (fun h => h) ?_ | refine NeedI.mk (fun h => h.2) ?_ | refine NeedI.mk (fun h => h.1) ?_ | exact Done.mk | refine Both.mk (fun _ => ?_) (fun _ => ?_) | refine Both2.mk (fun _ => ?_) ?_ | refine Need.mk (by first | omega | with_reducible exact CEq.refl _ | (dsimp only; omega) | (dsimp only [rng]; omega) | (simp only [decide_eq_true_eq, decide_eq_false_iff_not, Bool.or_eq_true, Bool.and_eq_true, Bool.or_eq_false_iff, Int.toNat_natCast, addN_eq, cond_false, cond_true, rng] at *; omega) | exact ⟨rfl, rfl⟩) ?_)
      | ((with_reducible refine Need.mk ?_ ?_); exact CEq.refl _)
      | ((with_reducible fail_if_success first | refine LoopVC.mk ?_ | refine Need.mk ?_ ?_ | refine CallVC.mk ?_ | refine LoopEnd.mk ?_ | refine Out.mk ?_ | show False | refine NeedI.mk ?_ ?_); conv => whnf)
    · rename_i h3 h4
      have h3 : (i : Int) < a.length := of_decide_eq_true h3
      refine Out.mk (hQ _ _ ?_)
      rw [decide_eq_false (fun e => by rw [e] at h4; simp at h4)]
      repeat' first
        | (with_reducible first | refine NeedI.mk (fun h => h) ?_ | refine NeedI.mk (fun h => h.2) ?_ | refine NeedI.mk (fun h => h.1) ?_ | exact Done.mk | refine Both.mk (fun _ => ?_) (fun _ => ?_) | refine Both2.mk (fun _ => ?_) ?_ | refine Need.mk (by first | omega | with_reducible exact CEq.refl _ | (dsimp only; omega) | (dsimp only [rng]; omega) | (simp only [decide_eq_true_eq, decide_eq_false_iff_not, Bool.or_eq_true, Bool.and_eq_true, Bool.or_eq_false_iff, Int.toNat_natCast, addN_eq, cond_false, cond_true, rng] at *; omega) | exact ⟨rfl, rfl⟩) ?_)
        | ((with_reducible refine Need.mk ?_ ?_); exact CEq.refl _)
        | ((with_reducible fail_if_success first | refine LoopVC.mk ?_ | refine Need.mk ?_ ?_ | refine CallVC.mk ?_ | refine LoopEnd.mk ?_ | refine Out.mk ?_ | show False | refine NeedI.mk ?_ ?_); conv => whnf)
    · rename_i h3 h4
      have h3 : (i : Int) < a.length := of_decide_eq_true h3
      refine LoopEnd.mk ⟨i + 1, ⟨by omega, fun k hk => ?_⟩, by omega, by (refine Le.of ?_ ?_ <;> repeat' first | exact trivial | exact CEq.refl _ | exact rfl | exact cI (by push_cast; first | rfl | omega) | exact SubE.dat fun _ _ _ _ => CEq.refl _ | refine SubE.var2 ?_ ?_ | refine SubE.var1 ?_ | refine SubE.var3 ?_ ?_ ?_ | refine SubE.var4 ?_ ?_ ?_ ?_ | refine SubE.var5 ?_ ?_ ?_ ?_ ?_ | refine Exists.intro _ (And.intro rfl ?_) | refine And.intro ?_ ?_)⟩
      rcases Nat.lt_or_ge k i with h5 | h5
      · exact hn k h5
      · obtain rfl : k = i := by omega
        have h4 := h4
        simp only [Bool.not_eq_false', cond_true, Bool.and_eq_true, beq_iff_eq, decide_eq_true_eq, Int.toNat_natCast] at h4
        revert h4
        cases a.getD k default with | mk s w => cases w with | mk x y =>
        cases b.getD k default with | mk s' w' => cases w' with | mk x' y' =>
        rintro ⟨rfl, rfl, rfl⟩; rfl
    · rename_i h3
      have h3 : ¬ (i : Int) < a.length := of_decide_eq_false h3
      refine Out.mk (hQ _ _ ?_)
      rw [decide_eq_true (eq_of_getD h fun k hk => hn k (by omega))]
      repeat' first
        | (with_reducible first | refine NeedI.mk (fun h => h) ?_ | refine NeedI.mk (fun h => h.2) ?_ | refine NeedI.mk (fun h => h.1) ?_ | exact Done.mk | refine Both.mk (fun _ => ?_) (fun _ => ?_) | refine Both2.mk (fun _ => ?_) ?_ | refine Need.mk (by first | omega | with_reducible exact CEq.refl _ | (dsimp only; omega) | (dsimp only [rng]; omega) | (simp only [decide_eq_true_eq, decide_eq_false_iff_not, Bool.or_eq_true, Bool.and_eq_true, Bool.or_eq_false_iff, Int.toNat_natCast, addN_eq, cond_false, cond_true, rng] at *; omega) | exact ⟨rfl, rfl⟩) ?_)
        | ((with_reducible refine Need.mk ?_ ?_); exact CEq.refl _)
        | ((with_reducible fail_if_success first | refine LoopVC.mk ?_ | refine Need.mk ?_ ?_ | refine CallVC.mk ?_ | refine LoopEnd.mk ?_ | refine Out.mk ?_ | show False | refine NeedI.mk ?_ ?_); conv => whnf)
set_option maxHeartbeats 8000000 in
set_option maxRecDepth 100000 in
theorem refs_ok (hm : P.follows .mixedOrders = true) (hk : law12_refs_k P F) (l : List Op) (hl : l.length ≤ 1000000) : FnOk P (F 103) [.one (slL 3 opE l)] [.one (.im (slL 3 opE l))] := by
  refine fnOk hm hk ?_
  repeat' first
    | (with_reducible first | refine NeedI.mk (fun h => h) ?_ | refine NeedI.mk (fun h => h.2) ?_ | refine NeedI.mk (fun h => h.1) ?_ | exact Done.mk | refine Both.mk (fun _ => ?_) (fun _ => ?_) | refine Both2.mk (fun _ => ?_) ?_ | refine Need.mk (by first | omega | with_reducible exact CEq.refl _ | (dsimp only; omega) | (dsimp only [rng]; omega) | (simp only [decide_eq_true_eq, decide_eq_false_iff_not, Bool.or_eq_true, Bool.and_eq_true, Bool.or_eq_false_iff, Int.toNat_natCast, addN_eq, cond_false, cond_true, rng] at *; omega) | exact ⟨rfl, rfl⟩) ?_)
    | ((with_reducible refine Need.mk ?_ ?_); exact CEq.refl _)
    | ((with_reducible fail_if_success first | refine LoopVC.mk ?_ | refine Need.mk ?_ ?_ | refine CallVC.mk ?_ | refine LoopEnd.mk ?_ | refine Out.mk ?_ | show False | refine NeedI.mk ?_ ?_); conv => whnf)
  refine LoopVC.inv (fun i : Nat => i ≤ l.length) (fun i => stL [(3, .os 15 0 3 0 i), (6, .c (slL 3 opE l)), (7, .c (.int .i64 l.length)), (8, .c (.int .i64 i))] [(15, ⟨3, i, .dat fun r j => opE ((l.take i).getD r default) j, false, true⟩)]) (fun i => l.length - i) 0 (Nat.zero_le _) ?_ ?_
  · (refine Le.ofN [15] ?_ ?_ <;> repeat' first | exact trivial | exact SubF.inr ⟨_, _, _, rfl, rfl, rfl⟩ | exact SubF.inl (cI (by push_cast; first | rfl | omega)) | exact SubF.inl (CEq.refl _) | exact SubF.inl rfl | exact SubF.inl trivial | exact SubF.inl ⟨rfl, rfl, rfl⟩ | exact SubF.inl ⟨rfl, rfl, rfl, rfl, rfl⟩ | exact Or.inl ⟨rfl, rfl⟩ | refine Or.inr ⟨rfl, _, rfl, ?_⟩ | refine SubEF.var2 ?_ ?_ | refine SubEF.var1 ?_ | refine SubEF.var3 ?_ ?_ ?_ | refine SubEF.var4 ?_ ?_ ?_ ?_ | exact SubEF.of (SubE.dat fun _ _ _ _ => CEq.refl _) | refine And.intro ?_ ?_ | refine SubF.frz rfl rfl rfl rfl (Nat.le_of_eq (Nat.zero_add _)) rfl rfl ?_)
  rintro Q hQ i hi
  repeat' first
    | (with_reducible first | refine NeedI.mk (fun h => h) ?_ | refine NeedI.mk (fun h => h.2) ?_ | refine NeedI.mk (fun h => h.1) ?_ | exact Done.mk | refine Both.mk (fun _ => ?_) (fun _ => ?_) | refine Both2.mk (fun _ => ?_) ?_ | refine Need.mk (by first | omega | with_reducible exact CEq.refl _ | (dsimp only; omega) | (dsimp only [rng]; omega) | (simp only [decide_eq_true_eq, decide_eq_false_iff_not, Bool.or_eq_true, Bool.and_eq_true, Bool.or_eq_false_iff, Int.toNat_natCast, addN_eq, cond_false, cond_true, rng] at *; omega) | exact ⟨rfl, rfl⟩) ?_)
    | ((with_reducible refine Need.mk ?_ ?_); exact CEq.refl _)
    | ((with_reducible fail_if_success first | refine LoopVC.mk ?_ | refine Need.mk ?_ ?_ | refine CallVC.mk ?_ | refine LoopEnd.mk ?_ | refine Out.mk ?_ | show False | refine NeedI.mk ?_ ?_); conv => whnf)
  · rename_i h3
    have h3 : (i : Int) < l.length := of_decide_eq_true h3
    refine LoopEnd.mk ⟨i + 1, by omega, by omega, ?_⟩
    (refine Le.of ?_ ?_ <;> repeat' first | exact trivial | exact CEq.refl _ | exact rfl | exact cI (by push_cast; first | rfl | omega) | exact SubE.dat fun _ _ _ _ => CEq.refl _ | refine SubE.var2 ?_ ?_ | refine SubE.var1 ?_ | refine SubE.var3 ?_ ?_ ?_ | refine SubE.var4 ?_ ?_ ?_ ?_ | refine SubE.var5 ?_ ?_ ?_ ?_ ?_ | refine Exists.intro _ (And.intro rfl ?_) | refine And.intro ?_ ?_)
    exact (IsL.refl.snoc (by omega) fun j hj => by (rcases (show j = 0 ∨ j = 1 ∨ j = 2 by omega) with rfl | rfl | rfl <;> exact CEq.refl _)).sub (by rw [List.length_take]; omega)
  · rename_i h3
    have h3 : ¬ (i : Int) < l.length := of_decide_eq_false h3
    refine Out.mk (hQ _ _ ?_)
    obtain rfl : i = l.length := by omega
    rw [List.take_length]
    repeat' first
      | (with_reducible first | refine NeedI.mk (fun h => h) ?_ | refine NeedI.mk (fun h => h.2) ?_ | refine NeedI.mk (fun h => h.1) ?_ | exact Done.mk | refine Both.mk (fun _ => ?_) (fun _ => ?_) | refine Both2.mk (fun _ => ?_) ?_ | refine Need.mk (by first | omega | with_reducible exact CEq.refl _ | (dsimp only; omega) | (dsimp only [rng]; omega) | (simp only [decide_eq_true_eq, decide_eq_false_iff_not, Bool.or_eq_true, Bool.and_eq_true, Bool.or_eq_false_iff, Int.toNat_natCast, addN_eq, cond_false, cond_true, rng] at *; omega) | exact ⟨rfl, rfl⟩) ?_)
      | ((with_reducible refine Need.mk ?_ ?_); exact CEq.refl _)
      | ((with_reducible fail_if_success first | refine LoopVC.mk ?_ | refine Need.mk ?_ ?_ | refine CallVC.mk ?_ | refine LoopEnd.mk ?_ | refine Out.mk ?_ | show False | refine NeedI.mk ?_ ?_); conv => whnf)
    trace_state
theorem _root_.Lk.S03.Small.wf {d : Dsk} (S : Small d) : EDsk.wf d :=
  ⟨by have := S.s; omega, by have := S.c; omega, fun s hs => by have := S.ls s hs; omega, fun w hw => by have := S.lc w hw; omega⟩
set_option maxHeartbeats 8000000 in
set_option maxRecDepth 100000 in
theorem rrun_ok (R : KR12 P F) (d : Dsk) (l : List Op) (most : Int) (S : Small d) (hl : l.length ≤ 1000000) (hw : ∀ o ∈ l, o.w.data.length ≤ 1000000) :
    FnOk P (F 105) [.many 2 (dskE d), .one (slL 3 opE l), .one (.int .i64 most)] [.many 2 (fun j => .im (dskE (run d l most) j))] := by
  refine fnOk R.r.m R.run ?_
  repeat' first
    | (with_reducible first | refine NeedI.mk (fun h => h) ?_ | refine NeedI.mk (fun h => h.2) ?_ | refine NeedI.mk (fun h => h.1) ?_ | exact Done.mk | refine Both.mk (fun _ => ?_) (fun _ => ?_) | refine Both2.mk (fun _ => ?_) ?_ | refine Need.mk (by first | omega | with_reducible exact CEq.refl _ | (dsimp only; omega) | (dsimp only [rng]; omega) | (simp only [decide_eq_true_eq, decide_eq_false_iff_not, Bool.or_eq_true, Bool.and_eq_true, Bool.or_eq_false_iff, Int.toNat_natCast, addN_eq, cond_false, cond_true, rng] at *; omega) | exact ⟨rfl, rfl⟩) ?_)
    | ((with_reducible refine Need.mk ?_ ?_); exact CEq.refl _)
    | ((with_reducible fail_if_success first | refine LoopVC.mk ?_ | refine Need.mk ?_ ?_ | refine CallVC.mk ?_ | refine LoopEnd.mk ?_ | refine Out.mk ?_ | show False | refine NeedI.mk ?_ ?_); conv => whnf)
  refine LoopVC.inv (fun i : Nat => i ≤ l.length ∧ (i : Int) ≤ max most 0) (fun i => stL [(1, .c (slL 3 opE l)), (2, .c (.int .i64 most)), (3, .va 3 0 0), (6, .va 6 0 0), (7, .c (.int .i64 i))]
      [(3, vE [.c (slL 1 strE (runL d (l.take i)).secs), .c (slL 2 wrE (runL d (l.take i)).cache)]), (6, vE [.nil 1, .nil 2])])
    (fun i => l.length - i) 0 ⟨Nat.zero_le _, by omega⟩ ?_ ?_
  · (refine Le.of ?_ ?_ <;> repeat' first | exact trivial | exact CEq.refl _ | exact rfl | exact cI (by push_cast; first | rfl | omega) | exact SubE.dat fun _ _ _ _ => CEq.refl _ | refine SubE.var2 ?_ ?_ | refine SubE.var1 ?_ | refine SubE.var3 ?_ ?_ ?_ | refine SubE.var4 ?_ ?_ ?_ ?_ | refine SubE.var5 ?_ ?_ ?_ ?_ ?_ | refine Exists.intro _ (And.intro rfl ?_) | refine And.intro ?_ ?_)
  rintro Q hQ i ⟨hi, him⟩
  have Si : Small (runL d (l.take i)) := Small_run S
  repeat' first
    | (with_reducible first | refine NeedI.mk (fun h => h) ?_ | refine NeedI.mk (fun h => h.2) ?_ | refine NeedI.mk (fun h => h.1) ?_ | exact Done.mk | refine Both.mk (fun _ => ?_) (fun _ => ?_) | refine Both2.mk (fun _ => ?_) ?_ | refine Need.mk (by first | omega | with_reducible exact CEq.refl _ | (dsimp only; omega) | (dsimp only [rng]; omega) | (simp only [decide_eq_true_eq, decide_eq_false_iff_not, Bool.or_eq_true, Bool.and_eq_true, Bool.or_eq_false_iff, Int.toNat_natCast, addN_eq, cond_false, cond_true, rng] at *; omega) | exact ⟨rfl, rfl⟩) ?_)
    | ((with_reducible refine Need.mk ?_ ?_); exact CEq.refl _)
    | ((with_reducible fail_if_success first | refine LoopVC.mk ?_ | refine Need.mk ?_ ?_ | refine CallVC.mk ?_ | refine LoopEnd.mk ?_ | refine Out.mk ?_ | show False | refine NeedI.mk ?_ ?_); conv => whnf)
  · rename_i h3 h5
    simp only [Bool.and_eq_true, decide_eq_true_eq, Int.toNat_natCast] at h3 h5
    have e : runL d (l.take (i + 1)) = (runL d (l.take i)).sync := by
      rw [take_snoc (by omega), runL_snoc]; unfold stepR; exact if_pos h5
    refine CallVC.mk' (fun _ => rright_ok R.r (runL d (l.take i)) Si.wf) (fun _ => .cons ((.many fun j hj => by (rcases (show j = 0 ∨ j = 1 by omega) with rfl | rfl <;> exact CEq.refl _))) .nil) ?_
    repeat' first
      | (with_reducible first | refine NeedI.mk (fun h => h) ?_ | refine NeedI.mk (fun h => h.2) ?_ | refine NeedI.mk (fun h => h.1) ?_ | exact Done.mk | refine Both.mk (fun _ => ?_) (fun _ => ?_) | refine Both2.mk (fun _ => ?_) ?_ | refine Need.mk (by first | omega | with_reducible exact CEq.refl _ | (dsimp only; omega) | (dsimp only [rng]; omega) | (simp only [decide_eq_true_eq, decide_eq_false_iff_not, Bool.or_eq_true, Bool.and_eq_true, Bool.or_eq_false_iff, Int.toNat_natCast, addN_eq, cond_false, cond_true, rng] at *; omega) | exact ⟨rfl, rfl⟩) ?_)
      | ((with_reducible refine Need.mk ?_ ?_); exact CEq.refl _)
      | ((with_reducible fail_if_success first | refine LoopVC.mk ?_ | refine Need.mk ?_ ?_ | refine CallVC.mk ?_ | refine LoopEnd.mk ?_ | refine Out.mk ?_ | show False | refine NeedI.mk ?_ ?_); conv => whnf)
    · rename_i h6
      have h6 : right (runL d (l.take i)) := of_decide_eq_true h6
      refine CallVC.mk' (fun _ => rsync_ok R.r (runL d (l.take i)) Si) (fun _ => .cons ((.many fun j hj => by (rcases (show j = 0 ∨ j = 1 by omega) with rfl | rfl <;> exact CEq.refl _))) .nil) ?_
      rw [← sync_ref h6, ← e]
      repeat' first
        | (with_reducible first | refine NeedI.mk (fun h => h) ?_ | refine NeedI.mk (fun h => h.2) ?_ | refine NeedI.mk (fun h => h.1) ?_ | exact Done.mk | refine Both.mk (fun _ => ?_) (fun _ => ?_) | refine Both2.mk (fun _ => ?_) ?_ | refine Need.mk (by first | omega | with_reducible exact CEq.refl _ | (dsimp only; omega) | (dsimp only [rng]; omega) | (simp only [decide_eq_true_eq, decide_eq_false_iff_not, Bool.or_eq_true, Bool.and_eq_true, Bool.or_eq_false_iff, Int.toNat_natCast, addN_eq, cond_false, cond_true, rng] at *; omega) | exact ⟨rfl, rfl⟩) ?_)
        | ((with_reducible refine Need.mk ?_ ?_); exact CEq.refl _)
        | ((with_reducible fail_if_success first | refine LoopVC.mk ?_ | refine Need.mk ?_ ?_ | refine CallVC.mk ?_ | refine LoopEnd.mk ?_ | refine Out.mk ?_ | show False | refine NeedI.mk ?_ ?_); conv => whnf)
      refine LoopEnd.mk ⟨i + 1, ⟨by omega, by omega⟩, by omega, ?_⟩
      (refine Le.of ?_ ?_ <;> repeat' first | exact trivial | exact CEq.refl _ | exact rfl | exact cI (by push_cast; first | rfl | omega) | exact SubE.dat fun _ _ _ _ => CEq.refl _ | refine SubE.var2 ?_ ?_ | refine SubE.var1 ?_ | refine SubE.var3 ?_ ?_ ?_ | refine SubE.var4 ?_ ?_ ?_ ?_ | refine SubE.var5 ?_ ?_ ?_ ?_ ?_ | refine Exists.intro _ (And.intro rfl ?_) | refine And.intro ?_ ?_)
    · rename_i h6
      have h6 : ¬ right (runL d (l.take i)) := of_decide_eq_false h6
      rw [show (runL d (l.take i)).sync = runL d (l.take i) from if_neg h6] at e
      refine LoopEnd.mk ⟨i + 1, ⟨by omega, by omega⟩, by omega, ?_⟩
      rw [e]
      (refine Le.of ?_ ?_ <;> repeat' first | exact trivial | exact CEq.refl _ | exact rfl | exact cI (by push_cast; first | rfl | omega) | exact SubE.dat fun _ _ _ _ => CEq.refl _ | refine SubE.var2 ?_ ?_ | refine SubE.var1 ?_ | refine SubE.var3 ?_ ?_ ?_ | refine SubE.var4 ?_ ?_ ?_ ?_ | refine SubE.var5 ?_ ?_ ?_ ?_ ?_ | refine Exists.intro _ (And.intro rfl ?_) | refine And.intro ?_ ?_)
  · rename_i h3 h5
    simp only [Bool.and_eq_true, decide_eq_true_eq, Int.toNat_natCast] at h3 h5
    have e : runL d (l.take (i + 1)) = (runL d (l.take i)).put (l.getD i default).w := by
      rw [take_snoc (by omega), runL_snoc]; unfold stepR; exact if_neg (by rw [h5]; decide)
    refine CallVC.mk' (fun _ => rright_ok R.r (runL d (l.take i)) Si.wf) (fun _ => .cons ((.many fun j hj => by (rcases (show j = 0 ∨ j = 1 by omega) with rfl | rfl <;> exact CEq.refl _))) .nil) ?_
    repeat' first
      | (with_reducible first | refine NeedI.mk (fun h => h) ?_ | refine NeedI.mk (fun h => h.2) ?_ | refine NeedI.mk (fun h => h.1) ?_ | exact Done.mk | refine Both.mk (fun _ => ?_) (fun _ => ?_) | refine Both2.mk (fun _ => ?_) ?_ | refine Need.mk (by first | omega | with_reducible exact CEq.refl _ | (dsimp only; omega) | (dsimp only [rng]; omega) | (simp only [decide_eq_true_eq, decide_eq_false_iff_not, Bool.or_eq_true, Bool.and_eq_true, Bool.or_eq_false_iff, Int.toNat_natCast, addN_eq, cond_false, cond_true, rng] at *; omega) | exact ⟨rfl, rfl⟩) ?_)
      | ((with_reducible refine Need.mk ?_ ?_); exact CEq.refl _)
      | ((with_reducible fail_if_success first | refine LoopVC.mk ?_ | refine Need.mk ?_ ?_ | refine CallVC.mk ?_ | refine LoopEnd.mk ?_ | refine Out.mk ?_ | show False | refine NeedI.mk ?_ ?_); conv => whnf)
    · rename_i h6
      simp only [Bool.and_eq_true, decide_eq_true_eq, Int.toNat_natCast] at h6
      obtain ⟨⟨⟨⟨q1, q2⟩, q3⟩, q4⟩, q5⟩ := h6
      have e2 : (runL d (l.take i)).put (l.getD i default).w = ⟨(runL d (l.take i)).secs, (runL d (l.take i)).cache ++ [(l.getD i default).w]⟩ := by
        unfold Dsk.put; exact if_pos ⟨q1, ⟨q2, q3, by omega⟩, by omega⟩
      rw [e2] at e
      refine LoopEnd.mk ⟨i + 1, ⟨by omega, by omega⟩, by omega, ?_⟩
      rw [e]
      refine (Le.frz 65 _ rfl).trans ?_
      (refine Le.ofN [] ?_ ?_ <;> repeat' first | exact trivial | exact SubF.inr ⟨_, _, _, rfl, rfl, rfl⟩ | exact SubF.inl (cI (by push_cast; first | rfl | omega)) | exact SubF.inl (CEq.refl _) | exact SubF.inl rfl | exact SubF.inl trivial | exact SubF.inl ⟨rfl, rfl, rfl⟩ | exact SubF.inl ⟨rfl, rfl, rfl, rfl, rfl⟩ | exact Or.inl ⟨rfl, rfl⟩ | refine Or.inr ⟨rfl, _, rfl, ?_⟩ | refine SubEF.var2 ?_ ?_ | refine SubEF.var1 ?_ | refine SubEF.var3 ?_ ?_ ?_ | refine SubEF.var4 ?_ ?_ ?_ ?_ | exact SubEF.of (SubE.dat fun _ _ _ _ => CEq.refl _) | refine And.intro ?_ ?_ | refine SubF.frz rfl rfl rfl rfl (Nat.le_of_eq (Nat.zero_add _)) rfl rfl ?_)
      exact ((IsL.refl (l := (runL d (l.take i)).cache)).app rfl (IsL.one fun j hj => by (rcases (show j = 0 ∨ j = 1 by omega) with rfl | rfl <;> exact CEq.refl _))).off.ceq (by simp)
    · rename_i h6
      simp only [Bool.and_eq_false_iff, decide_eq_false_iff_not, Int.toNat_natCast] at h6
      have e2 : (runL d (l.take i)).put (l.getD i default).w = runL d (l.take i) := by
        unfold Dsk.put; exact if_neg fun x => by
          obtain ⟨a, ⟨b, c, d⟩, f⟩ := x
          rcases h6 with (((h6 | h6) | h6) | h6) | h6
          · exact h6 a
          all_goals omega
      rw [e2] at e
      refine LoopEnd.mk ⟨i + 1, ⟨by omega, by omega⟩, by omega, ?_⟩
      rw [e]
      (refine Le.of ?_ ?_ <;> repeat' first | exact trivial | exact CEq.refl _ | exact rfl | exact cI (by push_cast; first | rfl | omega) | exact SubE.dat fun _ _ _ _ => CEq.refl _ | refine SubE.var2 ?_ ?_ | refine SubE.var1 ?_ | refine SubE.var3 ?_ ?_ ?_ | refine SubE.var4 ?_ ?_ ?_ ?_ | refine SubE.var5 ?_ ?_ ?_ ?_ ?_ | refine Exists.intro _ (And.intro rfl ?_) | refine And.intro ?_ ?_)
  · rename_i h3
    simp only [Bool.and_eq_false_iff, decide_eq_false_iff_not, Int.toNat_natCast] at h3
    refine Out.mk (hQ _ _ ?_)
    have e : run d l most = runL d (l.take i) := by
      unfold run
      rcases h3 with h3 | h3
      · rw [List.take_of_length_le (i := i) (by omega), List.take_of_length_le (by omega)]
      · rw [show most.toNat = i by omega]
    rw [e]
    repeat' first
      | (with_reducible first | refine NeedI.mk (fun h => h) ?_ | refine NeedI.mk (fun h => h.2) ?_ | refine NeedI.mk (fun h => h.1) ?_ | exact Done.mk | refine Both.mk (fun _ => ?_) (fun _ => ?_) | refine Both2.mk (fun _ => ?_) ?_ | refine Need.mk (by first | omega | with_reducible exact CEq.refl _ | (dsimp only; omega) | (dsimp only [rng]; omega) | (simp only [decide_eq_true_eq, decide_eq_false_iff_not, Bool.or_eq_true, Bool.and_eq_true, Bool.or_eq_false_iff, Int.toNat_natCast, addN_eq, cond_false, cond_true, rng] at *; omega) | exact ⟨rfl, rfl⟩) ?_)
      | ((with_reducible refine Need.mk ?_ ?_); exact CEq.refl _)
      | ((with_reducible fail_if_success first | refine LoopVC.mk ?_ | refine Need.mk ?_ ?_ | refine CallVC.mk ?_ | refine LoopEnd.mk ?_ | refine Out.mk ?_ | show False | refine NeedI.mk ?_ ?_); conv => whnf)
end
end Lk.S12
namespace Lk.S12
open Go Lk Lk.C Lk.S03
section
variable {P : Program} {F : Nat → Nat}
set_option maxHeartbeats 8000000 in
set_option maxRecDepth 100000 in
theorem rplan_ok (R : KR12 P F) (n : Nat) (data : List UInt8) (h1 : 1 ≤ n) (h2 : n ≤ 16) (hd : data.length = 32) : FnOk P (F 102) [.one (.int .i64 n), .one (.str data)] [.one (.im (slL 3 opE (plan n data)))] := by
  refine fnOk R.r.m R.plan ?_
  have hw : wrapI .u8 (n : Int) = (n : Int) := by
    simp [wrapI_eq, IntKind.wrap, IntKind.signed, IntKind.bits]
    omega
  repeat' first
    | (with_reducible first | refine NeedI.mk (fun h => h) ?_ | refine NeedI.mk (fun h => h.2) ?_ | refine NeedI.mk (fun h => h.1) ?_ | exact Done.mk | refine Both.mk (fun _ => ?_) (fun _ => ?_) | refine Both2.mk (fun _ => ?_) ?_ | refine Need.mk (by first | omega | with_reducible exact CEq.refl _ | (dsimp only; omega) | (dsimp only [rng]; omega) | (simp only [decide_eq_true_eq, decide_eq_false_iff_not, Bool.or_eq_true, Bool.and_eq_true, Bool.or_eq_false_iff, Int.toNat_natCast, addN_eq, cond_false, cond_true, rng] at *; omega) | exact ⟨rfl, rfl⟩) ?_)
    | ((with_reducible refine Need.mk ?_ ?_); exact CEq.refl _)
    | ((with_reducible fail_if_success first | refine LoopVC.mk ?_ | refine Need.mk ?_ ?_ | refine CallVC.mk ?_ | refine LoopEnd.mk ?_ | refine Out.mk ?_ | show False | refine NeedI.mk ?_ ?_); conv => whnf)
  refine CallVC.mk' (fun _ => rat_ok R 1 (data.take 16)) (fun _ => .cons (.one (CEq.refl _)) (.cons (.one (CEq.refl _)) .nil)) ?_
  repeat' first
    | (with_reducible first | refine NeedI.mk (fun h => h) ?_ | refine NeedI.mk (fun h => h.2) ?_ | refine NeedI.mk (fun h => h.1) ?_ | exact Done.mk | refine Both.mk (fun _ => ?_) (fun _ => ?_) | refine Both2.mk (fun _ => ?_) ?_ | refine Need.mk (by first | omega | with_reducible exact CEq.refl _ | (dsimp only; omega) | (dsimp only [rng]; omega) | (simp only [decide_eq_true_eq, decide_eq_false_iff_not, Bool.or_eq_true, Bool.and_eq_true, Bool.or_eq_false_iff, Int.toNat_natCast, addN_eq, cond_false, cond_true, rng] at *; omega) | exact ⟨rfl, rfl⟩) ?_)
    | ((with_reducible refine Need.mk ?_ ?_); exact CEq.refl _)
    | ((with_reducible fail_if_success first | refine LoopVC.mk ?_ | refine Need.mk ?_ ?_ | refine CallVC.mk ?_ | refine LoopEnd.mk ?_ | refine Out.mk ?_ | show False | refine NeedI.mk ?_ ?_); conv => whnf)
  refine CallVC.mk' (fun _ => rat_ok R 2 (data.drop 16)) (fun _ => .cons (.one (CEq.refl _)) (.cons (.one (CEq.refl _)) .nil)) ?_
  repeat' first
    | (with_reducible first | refine NeedI.mk (fun h => h) ?_ | refine NeedI.mk (fun h => h.2) ?_ | refine NeedI.mk (fun h => h.1) ?_ | exact Done.mk | refine Both.mk (fun _ => ?_) (fun _ => ?_) | refine Both2.mk (fun _ => ?_) ?_ | refine Need.mk (by first | omega | with_reducible exact CEq.refl _ | (dsimp only; omega) | (dsimp only [rng]; omega) | (simp only [decide_eq_true_eq, decide_eq_false_iff_not, Bool.or_eq_true, Bool.and_eq_true, Bool.or_eq_false_iff, Int.toNat_natCast, addN_eq, cond_false, cond_true, rng] at *; omega) | exact ⟨rfl, rfl⟩) ?_)
    | ((with_reducible refine Need.mk ?_ ?_); exact CEq.refl _)
    | ((with_reducible fail_if_success first | refine LoopVC.mk ?_ | refine Need.mk ?_ ?_ | refine CallVC.mk ?_ | refine LoopEnd.mk ?_ | refine Out.mk ?_ | show False | refine NeedI.mk ?_ ?_); conv => whnf)
  rw [hw]
  repeat' first
    | (with_reducible first | refine NeedI.mk (fun h => h) ?_ | refine NeedI.mk (fun h => h.2) ?_ | refine NeedI.mk (fun h => h.1) ?_ | exact Done.mk | refine Both.mk (fun _ => ?_) (fun _ => ?_) | refine Both2.mk (fun _ => ?_) ?_ | refine Need.mk (by first | omega | with_reducible exact CEq.refl _ | (dsimp only; omega) | (dsimp only [rng]; omega) | (simp only [decide_eq_true_eq, decide_eq_false_iff_not, Bool.or_eq_true, Bool.and_eq_true, Bool.or_eq_false_iff, Int.toNat_natCast, addN_eq, cond_false, cond_true, rng] at *; omega) | exact ⟨rfl, rfl⟩) ?_)
    | ((with_reducible refine Need.mk ?_ ?_); exact CEq.refl _)
    | ((with_reducible fail_if_success first | refine LoopVC.mk ?_ | refine Need.mk ?_ ?_ | refine CallVC.mk ?_ | refine LoopEnd.mk ?_ | refine Out.mk ?_ | show False | refine NeedI.mk ?_ ?_); conv => whnf)
  refine Need.mk (fun i hi => by (rcases (show i = 0 ∨ i = 1 by omega) with rfl | rfl <;> exact trivial)) ?_
  repeat' first
    | (with_reducible first | refine NeedI.mk (fun h => h) ?_ | refine NeedI.mk (fun h => h.2) ?_ | refine NeedI.mk (fun h => h.1) ?_ | exact Done.mk | refine Both.mk (fun _ => ?_) (fun _ => ?_) | refine Both2.mk (fun _ => ?_) ?_ | refine Need.mk (by first | omega | with_reducible exact CEq.refl _ | (dsimp only; omega) | (dsimp only [rng]; omega) | (simp only [decide_eq_true_eq, decide_eq_false_iff_not, Bool.or_eq_true, Bool.and_eq_true, Bool.or_eq_false_iff, Int.toNat_natCast, addN_eq, cond_false, cond_true, rng] at *; omega) | exact ⟨rfl, rfl⟩) ?_)
    | ((with_reducible refine Need.mk ?_ ?_); exact CEq.refl _)
    | ((with_reducible fail_if_success first | refine LoopVC.mk ?_ | refine Need.mk ?_ ?_ | refine CallVC.mk ?_ | refine LoopEnd.mk ?_ | refine Out.mk ?_ | show False | refine NeedI.mk ?_ ?_); conv => whnf)
  refine CallVC.mk' (fun _ => rfilled_ok R [74, UInt8.ofNat n] (by show 2 ≤ 16; omega)) (fun _ => .cons (.one (CEq.refl _)) .nil) ?_
  repeat' first
    | (with_reducible first | refine NeedI.mk (fun h => h) ?_ | refine NeedI.mk (fun h => h.2) ?_ | refine NeedI.mk (fun h => h.1) ?_ | exact Done.mk | refine Both.mk (fun _ => ?_) (fun _ => ?_) | refine Both2.mk (fun _ => ?_) ?_ | refine Need.mk (by first | omega | with_reducible exact CEq.refl _ | (dsimp only; omega) | (dsimp only [rng]; omega) | (simp only [decide_eq_true_eq, decide_eq_false_iff_not, Bool.or_eq_true, Bool.and_eq_true, Bool.or_eq_false_iff, Int.toNat_natCast, addN_eq, cond_false, cond_true, rng] at *; omega) | exact ⟨rfl, rfl⟩) ?_)
    | ((with_reducible refine Need.mk ?_ ?_); exact CEq.refl _)
    | ((with_reducible fail_if_success first | refine LoopVC.mk ?_ | refine Need.mk ?_ ?_ | refine CallVC.mk ?_ | refine LoopEnd.mk ?_ | refine Out.mk ?_ | show False | refine NeedI.mk ?_ ?_); conv => whnf)
  refine CallVC.mk' (fun _ => rat_ok R 0 (headL n)) (fun _ => .cons (.one (CEq.refl _)) (.cons (.one (CEq.refl _)) .nil)) ?_
  repeat' first
    | (with_reducible first | refine NeedI.mk (fun h => h) ?_ | refine NeedI.mk (fun h => h.2) ?_ | refine NeedI.mk (fun h => h.1) ?_ | exact Done.mk | refine Both.mk (fun _ => ?_) (fun _ => ?_) | refine Both2.mk (fun _ => ?_) ?_ | refine Need.mk (by first | omega | with_reducible exact CEq.refl _ | (dsimp only; omega) | (dsimp only [rng]; omega) | (simp only [decide_eq_true_eq, decide_eq_false_iff_not, Bool.or_eq_true, Bool.and_eq_true, Bool.or_eq_false_iff, Int.toNat_natCast, addN_eq, cond_false, cond_true, rng] at *; omega) | exact ⟨rfl, rfl⟩) ?_)
    | ((with_reducible refine Need.mk ?_ ?_); exact CEq.refl _)
    | ((with_reducible fail_if_success first | refine LoopVC.mk ?_ | refine Need.mk ?_ ?_ | refine CallVC.mk ?_ | refine LoopEnd.mk ?_ | refine Out.mk ?_ | show False | refine NeedI.mk ?_ ?_); conv => whnf)
  refine CallVC.mk' (fun _ => rat_ok R (2 * n + 1) (data.take 16)) (fun _ => .cons (.one (CEq.refl _)) (.cons (.one (CEq.refl _)) .nil)) ?_
  repeat' first
    | (with_reducible first | refine NeedI.mk (fun h => h) ?_ | refine NeedI.mk (fun h => h.2) ?_ | refine NeedI.mk (fun h => h.1) ?_ | exact Done.mk | refine Both.mk (fun _ => ?_) (fun _ => ?_) | refine Both2.mk (fun _ => ?_) ?_ | refine Need.mk (by first | omega | with_reducible exact CEq.refl _ | (dsimp only; omega) | (dsimp only [rng]; omega) | (simp only [decide_eq_true_eq, decide_eq_false_iff_not, Bool.or_eq_true, Bool.and_eq_true, Bool.or_eq_false_iff, Int.toNat_natCast, addN_eq, cond_false, cond_true, rng] at *; omega) | exact ⟨rfl, rfl⟩) ?_)
    | ((with_reducible refine Need.mk ?_ ?_); exact CEq.refl _)
    | ((with_reducible fail_if_success first | refine LoopVC.mk ?_ | refine Need.mk ?_ ?_ | refine CallVC.mk ?_ | refine LoopEnd.mk ?_ | refine Out.mk ?_ | show False | refine NeedI.mk ?_ ?_); conv => whnf)
  refine CallVC.mk' (fun _ => rat_ok R (2 * n + 1 + 1) (data.drop 16)) (fun _ => .cons (.one (CEq.refl _)) (.cons (.one (CEq.refl _)) .nil)) ?_
  repeat' first
    | (with_reducible first | refine NeedI.mk (fun h => h) ?_ | refine NeedI.mk (fun h => h.2) ?_ | refine NeedI.mk (fun h => h.1) ?_ | exact Done.mk | refine Both.mk (fun _ => ?_) (fun _ => ?_) | refine Both2.mk (fun _ => ?_) ?_ | refine Need.mk (by first | omega | with_reducible exact CEq.refl _ | (dsimp only; omega) | (dsimp only [rng]; omega) | (simp only [decide_eq_true_eq, decide_eq_false_iff_not, Bool.or_eq_true, Bool.and_eq_true, Bool.or_eq_false_iff, Int.toNat_natCast, addN_eq, cond_false, cond_true, rng] at *; omega) | exact ⟨rfl, rfl⟩) ?_)
    | ((with_reducible refine Need.mk ?_ ?_); exact CEq.refl _)
    | ((with_reducible fail_if_success first | refine LoopVC.mk ?_ | refine Need.mk ?_ ?_ | refine CallVC.mk ?_ | refine LoopEnd.mk ?_ | refine Out.mk ?_ | show False | refine NeedI.mk ?_ ?_); conv => whnf)
  refine CallVC.mk' (fun _ => rfilled_ok R [] (by show 0 ≤ 16; omega)) (fun _ => .cons (.one (CEq.refl _)) .nil) ?_
  repeat' first
    | (with_reducible first | refine NeedI.mk (fun h => h) ?_ | refine NeedI.mk (fun h => h.2) ?_ | refine NeedI.mk (fun h => h.1) ?_ | exact Done.mk | refine Both.mk (fun _ => ?_) (fun _ => ?_) | refine Both2.mk (fun _ => ?_) ?_ | refine Need.mk (by first | omega | with_reducible exact CEq.refl _ | (dsimp only; omega) | (dsimp only [rng]; omega) | (simp only [decide_eq_true_eq, decide_eq_false_iff_not, Bool.or_eq_true, Bool.and_eq_true, Bool.or_eq_false_iff, Int.toNat_natCast, addN_eq, cond_false, cond_true, rng] at *; omega) | exact ⟨rfl, rfl⟩) ?_)
    | ((with_reducible refine Need.mk ?_ ?_); exact CEq.refl _)
    | ((with_reducible fail_if_success first | refine LoopVC.mk ?_ | refine Need.mk ?_ ?_ | refine CallVC.mk ?_ | refine LoopEnd.mk ?_ | refine Out.mk ?_ | show False | refine NeedI.mk ?_ ?_); conv => whnf)
  refine CallVC.mk' (fun _ => rat_ok R 0 zs) (fun _ => .cons (.one (CEq.refl _)) (.cons (.one (CEq.refl _)) .nil)) ?_
  repeat' first
    | (with_reducible first | refine NeedI.mk (fun h => h) ?_ | refine NeedI.mk (fun h => h.2) ?_ | refine NeedI.mk (fun h => h.1) ?_ | exact Done.mk | refine Both.mk (fun _ => ?_) (fun _ => ?_) | refine Both2.mk (fun _ => ?_) ?_ | refine Need.mk (by first | omega | with_reducible exact CEq.refl _ | (dsimp only; omega) | (dsimp only [rng]; omega) | (simp only [decide_eq_true_eq, decide_eq_false_iff_not, Bool.or_eq_true, Bool.and_eq_true, Bool.or_eq_false_iff, Int.toNat_natCast, addN_eq, cond_false, cond_true, rng] at *; omega) | exact ⟨rfl, rfl⟩) ?_)
    | ((with_reducible refine Need.mk ?_ ?_); exact CEq.refl _)
    | ((with_reducible fail_if_success first | refine LoopVC.mk ?_ | refine Need.mk ?_ ?_ | refine CallVC.mk ?_ | refine LoopEnd.mk ?_ | refine Out.mk ?_ | show False | refine NeedI.mk ?_ ?_); conv => whnf)
  refine Need.mk (CEq.list rfl fun i hi j hj => ?_) ?_
  · have hi : i < 10 := hi
    rcases (show i = 0 ∨ i = 1 ∨ i = 2 ∨ i = 3 ∨ i = 4 ∨ i = 5 ∨ i = 6 ∨ i = 7 ∨ i = 8 ∨ i = 9 by omega) with rfl | rfl | rfl | rfl | rfl | rfl | rfl | rfl | rfl | rfl <;> rcases (show j = 0 ∨ j = 1 ∨ j = 2 by omega) with rfl | rfl | rfl <;> exact CEq.refl _
  repeat' first
    | (with_reducible first | refine NeedI.mk (fun h => h) ?_ | refine NeedI.mk (fun h => h.2) ?_ | refine NeedI.mk (fun h => h.1) ?_ | exact Done.mk | refine Both.mk (fun _ => ?_) (fun _ => ?_) | refine Both2.mk (fun _ => ?_) ?_ | refine Need.mk (by with_reducible exact Nat.le_of_eq (Nat.zero_add _)) ?_)
    | ((with_reducible fail_if_success first | refine LoopVC.mk ?_ | refine Need.mk ?_ ?_ | refine CallVC.mk ?_ | refine LoopEnd.mk ?_ | refine Out.mk ?_ | show False | refine NeedI.mk ?_ ?_); conv => whnf)
end
end Lk.S12
namespace Lk.S12
open Go Lk Lk.C Lk.S03
theorem runL_right {l : List Op} : ∀ {d : Dsk}, right d → right (runL d l) := by
  induction l with
  | nil => exact id
  | cons o l ih => intro d h; exact ih (stepR_right (o := o) h)
section
variable {P : Program} {F : Nat → Nat}
end
end Lk.S12
