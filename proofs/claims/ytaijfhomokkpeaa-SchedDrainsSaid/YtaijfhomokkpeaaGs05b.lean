/-
  Gs05b: what these chapters need.
-/
import Derived.Test.YtaijfhomokkpeaaGs05a
set_option linter.unusedSimpArgs false
set_option linter.unusedVariables false
namespace Lk.S05
open Go Lk Lk.C
def nextOk (l : Ls) : Prop := right l ∧ waits l
instance (l : Ls) : Decidable (nextOk l) := by unfold nextOk; infer_instance
def nextL (l : Ls) : Ls := if nextOk l then (nx l).1 else l
def nextA (l : Ls) : Int := if nextOk l then (nx l).1.at_ else 0
def nextC (l : Ls) : Int := if nextOk l then (nx l).2 else 0
theorem setSelf {l : List Ln} {k : Nat} : l.set k ⟨(l.getD k default).weight, (l.getD k default).deficit, (l.getD k default).costs⟩ = l := by
  refine List.ext_getElem (by simp) fun i h1 h2 => ?_
  rw [List.getElem_set]
  split
  · rename_i e; subst e
    rw [getD_eq h2]
  · rfl
/-- Data of lanes of which one was turned. -/
def Upd (l : List Ln) (k : Nat) (X : Ln) (f : Nat → Nat → Cell) : Prop := ∀ i, i < l.length → ∀ j, j < 3 → CEq (f i j) (lnE (if i = k then X else l.getD i default) j)
theorem Upd.start {l : List Ln} {k : Nat} : Upd l k (l.getD k default) (fun r j => lnE (l.getD r default) j) := fun i hi j hj => by
  by_cases e : i = k
  · subst e; rw [if_pos rfl]; exact CEq.refl _
  · rw [if_neg e]; exact CEq.refl _
theorem Upd.d {l : List Ln} {k : Nat} {X : Ln} {f : Nat → Nat → Cell} {d : Int} (h : Upd l k X f) : Upd l k ⟨X.weight, d, X.costs⟩ (updC f k 1 (.int .i64 d)) := fun i hi j hj => by
  have hh := h i hi j hj
  rw [updC_at]
  by_cases e : i = k
  · subst e
    rw [if_pos rfl] at hh ⊢
    rcases (show j = 0 ∨ j = 1 ∨ j = 2 by omega) with rfl | rfl | rfl
    · rw [if_neg (show ¬ (i = i ∧ 0 = 1) from fun x => absurd x.2 (by decide))]; exact hh
    · rw [if_pos (show i = i ∧ 1 = 1 from ⟨rfl, rfl⟩)]; exact CEq.refl _
    · rw [if_neg (show ¬ (i = i ∧ 2 = 1) from fun x => absurd x.2 (by decide))]; exact hh
  · rw [if_neg (show ¬ (i = k ∧ j = 1) from fun x => e x.1)]
    rw [if_neg e] at hh ⊢; exact hh
theorem Upd.c {l : List Ln} {k : Nat} {X : Ln} {f : Nat → Nat → Cell} {x : Cell} {cs : List Int} (h : Upd l k X f) (hx : CEq x (slL 1 intE cs)) : Upd l k ⟨X.weight, X.deficit, cs⟩ (updC f k 2 x) := fun i hi j hj => by
  have hh := h i hi j hj
  rw [updC_at]
  by_cases e : i = k
  · subst e
    rw [if_pos rfl] at hh ⊢
    rcases (show j = 0 ∨ j = 1 ∨ j = 2 by omega) with rfl | rfl | rfl
    · rw [if_neg (show ¬ (i = i ∧ 0 = 2) from fun x => absurd x.2 (by decide))]; exact hh
    · rw [if_neg (show ¬ (i = i ∧ 1 = 2) from fun x => absurd x.2 (by decide))]; exact hh
    · rw [if_pos (show i = i ∧ 2 = 2 from ⟨rfl, rfl⟩)]; exact hx
  · rw [if_neg (show ¬ (i = k ∧ j = 2) from fun x => e x.1)]
    rw [if_neg e] at hh ⊢; exact hh
theorem Upd.isL {l : List Ln} {k : Nat} {X : Ln} {f : Nat → Nat → Cell} (h : Upd l k X f) : IsL 3 lnE (l.set k X) f := fun i hi j hj => by
  rw [List.length_set] at hi
  rw [setL_getD hi]; exact h i hi j hj
section
variable {P : Program} {F : Nat → Nat}
set_option maxHeartbeats 8000000 in
set_option maxRecDepth 100000 in
theorem next_ok (K : KLn P F) (l : Ls) (T : Tiny l) : FnOk P (F 86) [.many 3 (lsE l)] [.many 3 (fun j => .im (lsE (nextL l) j)), .one (.im (.int .i64 (nextA l))), .one (.im (.int .i64 (nextC l))), .one (.im (.bool (decide (nextOk l))))] := by
  refine fnOk K.m K.next ?_
  have hn := T.n
  repeat' first | (with_reducible first | refine nI1 ?_ | refine nI2 ?_ | refine nI3 ?_ | exact ⟨⟩ | refine Both.mk (fun _ => ?_) fun _ => ?_ | refine Both2.mk (fun _ => ?_) ?_ | (refine Need.mk ?_ ?_; (first | omega | exact CEq.refl _ | (dsimp only [rng]; omega) | (simp only [decide_eq_true_eq, decide_eq_false_iff_not, Bool.or_eq_true, Bool.and_eq_true, Bool.or_eq_false_iff, Int.toNat_natCast, addN_eq, cond_false, cond_true, rng] at *; omega) | exact ⟨rfl, rfl⟩))) | ((with_reducible refine Need.mk ?_ ?_); exact CEq.refl _) | ((with_reducible fail_if_success first | constructor | show False); conv => whnf)
  refine CallVC.mk' (fun _ => right_ok K.m K.right l T) (fun _ => .cons ((.many fun j hj => by (rcases (show j = 0 ∨ j = 1 ∨ j = 2 by omega) with rfl | rfl | rfl <;> exact CEq.refl _))) .nil) ?_
  repeat' first | (with_reducible first | refine nI1 ?_ | refine nI2 ?_ | refine nI3 ?_ | exact ⟨⟩ | refine Both.mk (fun _ => ?_) fun _ => ?_ | refine Both2.mk (fun _ => ?_) ?_ | (refine Need.mk ?_ ?_; (first | omega | exact CEq.refl _ | (dsimp only [rng]; omega) | (simp only [decide_eq_true_eq, decide_eq_false_iff_not, Bool.or_eq_true, Bool.and_eq_true, Bool.or_eq_false_iff, Int.toNat_natCast, addN_eq, cond_false, cond_true, rng] at *; omega) | exact ⟨rfl, rfl⟩))) | ((with_reducible refine Need.mk ?_ ?_); exact CEq.refl _) | ((with_reducible fail_if_success first | constructor | show False); conv => whnf)
  refine CallVC.mk' (fun _ => waits_ok K l T) (fun _ => .cons ((.many fun j hj => by (rcases (show j = 0 ∨ j = 1 ∨ j = 2 by omega) with rfl | rfl | rfl <;> exact CEq.refl _))) .nil) ?_
  repeat' first | (with_reducible first | refine nI1 ?_ | refine nI2 ?_ | refine nI3 ?_ | exact ⟨⟩ | refine Both.mk (fun _ => ?_) fun _ => ?_ | refine Both2.mk (fun _ => ?_) ?_ | (refine Need.mk ?_ ?_; (first | omega | exact CEq.refl _ | (dsimp only [rng]; omega) | (simp only [decide_eq_true_eq, decide_eq_false_iff_not, Bool.or_eq_true, Bool.and_eq_true, Bool.or_eq_false_iff, Int.toNat_natCast, addN_eq, cond_false, cond_true, rng] at *; omega) | exact ⟨rfl, rfl⟩))) | ((with_reducible refine Need.mk ?_ ?_); exact CEq.refl _) | ((with_reducible fail_if_success first | constructor | show False); conv => whnf)
  · rename_i h
    have hp : ¬ nextOk l := fun x => by rw [decide_eq_true x.1, decide_eq_true x.2] at h; simp at h
    rw [show nextL l = l from if_neg hp, show nextA l = 0 from if_neg hp, show nextC l = 0 from if_neg hp, decide_eq_false hp]
    repeat' first | (with_reducible first | refine nI1 ?_ | refine nI2 ?_ | refine nI3 ?_ | exact ⟨⟩ | refine Both.mk (fun _ => ?_) fun _ => ?_ | refine Both2.mk (fun _ => ?_) ?_ | (refine Need.mk ?_ ?_; (first | omega | exact CEq.refl _ | (dsimp only [rng]; omega) | (simp only [decide_eq_true_eq, decide_eq_false_iff_not, Bool.or_eq_true, Bool.and_eq_true, Bool.or_eq_false_iff, Int.toNat_natCast, addN_eq, cond_false, cond_true, rng] at *; omega) | exact ⟨rfl, rfl⟩))) | ((with_reducible refine Need.mk ?_ ?_); exact CEq.refl _) | ((with_reducible fail_if_success first | constructor | show False); conv => whnf)
  · rename_i h
    have hp : nextOk l := by
      simp only [Bool.or_eq_false_iff, Bool.not_eq_false', decide_eq_true_eq] at h; exact h
    rw [show nextL l = (nx l).1 from if_pos hp, show nextA l = (nx l).1.at_ from if_pos hp, show nextC l = (nx l).2 from if_pos hp, decide_eq_true hp]
    obtain ⟨hr, hw⟩ := hp
    refine CallVC.mk' (fun _ => sl_Clone_lanes_Lane_ok K.m K.cloneL l.list.length (fun i j => lnE (l.list.getD i default) j) (by omega)) (fun _ => .cons (.one (CEq.refl _)) .nil) ?_
    repeat' first | (with_reducible first | refine nI1 ?_ | refine nI2 ?_ | refine nI3 ?_ | exact ⟨⟩ | refine Both.mk (fun _ => ?_) fun _ => ?_ | refine Both2.mk (fun _ => ?_) ?_ | (refine Need.mk ?_ ?_; (first | omega | exact CEq.refl _ | (dsimp only [rng]; omega) | (simp only [decide_eq_true_eq, decide_eq_false_iff_not, Bool.or_eq_true, Bool.and_eq_true, Bool.or_eq_false_iff, Int.toNat_natCast, addN_eq, cond_false, cond_true, rng] at *; omega) | exact ⟨rfl, rfl⟩))) | ((with_reducible refine Need.mk ?_ ?_); exact CEq.refl _) | ((with_reducible fail_if_success first | constructor | show False); conv => whnf)
    refine LoopVC.inv (X := Ls) (fun x => right x ∧ waits x ∧ nx x = nx l ∧ x.list.length = l.list.length) (fun x => stL [(1, .va 1 0 0), (2, .va 2 0 0)]
      [(1, vE [.os 1019 0 3 0 l.list.length, .c (.int .i64 x.at_), .c (.bool x.given)]), (2, vE [.nil 3, .c (.int .i64 0), .c (.bool false)]), (1019, ⟨3, l.list.length, .dat fun r j => lnE (x.list.getD r default) j, false, true⟩)]) (fun x => mu x) l ⟨hr, hw, rfl, rfl⟩ ?_ ?_
    · (refine Le.of ?_ ?_ <;> repeat' first | exact trivial | exact CEq.refl _ | exact rfl | exact cI (by push_cast; first | rfl | omega) | exact SubE.dat fun _ _ _ _ => CEq.refl _ | refine SubE.var2 ?_ ?_ | refine SubE.var1 ?_ | refine SubE.var3 ?_ ?_ ?_ | refine SubE.var4 ?_ ?_ ?_ ?_ | refine SubE.var5 ?_ ?_ ?_ ?_ ?_ | refine SubE.varN ?_ | refine Exists.intro _ (And.intro rfl ?_) | refine And.intro ?_ ?_)
    rintro Q hQ x ⟨rx, wx, nxe, hlen⟩
    have hat := rx.2.1
    have h6 := rx.1.2
    have hcur := rx.cur
    have hgv := gv_bd rx
    have hm : mst x (pos x) ≤ 39 := by unfold mst; split <;> omega
    obtain ⟨⟨w1, w2⟩, ⟨d1, d2⟩, cl, cc⟩ := (show okLn (mst x (pos x)) (cur x) from hcur)
    have adv_h : ∀ d : Int, 0 ≤ d → ((cur x).costs = [] ∧ d = 0 ∨ ((cur x).costs ≠ [] ∧ gv x < hd0 x ∧ d = gv x)) → ∃ m : Ls, (right m ∧ waits m ∧ nx m = nx l ∧ m.list.length = l.list.length) ∧ mu m < mu x ∧ m.list = x.list.set (pos x) ⟨(x.list.getD (pos x) default).weight, d, (x.list.getD (pos x) default).costs⟩ ∧ m.at_ = (x.at_ + 1) % (l.list.length : Int) ∧ m.given = false := fun d h0 hd => by
      have ht : turn x = (adv x d, none) := by
        unfold turn
        rcases hd with ⟨a, rfl⟩ | ⟨a, b, rfl⟩
        · rw [if_pos a]
        · rw [if_neg a, if_pos b]
      obtain ⟨a, b, c⟩ := turn_none rx wx ht
      exact ⟨adv x d, ⟨a, b, (nx_none rx wx ht).symm.trans nxe, (adv_len d).trans hlen⟩, c, rfl, by rw [← hlen]; rfl, rfl⟩
    have srv_h : (cur x).costs ≠ [] → ¬ gv x < hd0 x → nx l = (srv x, hd0 x) := fun a b => by
      rw [← nxe]
      exact nx_some (by unfold turn; rw [if_neg a, if_neg b])
    have hgt : x.given = true → gv x = (cur x).deficit := fun h => if_pos h
    have hgf : x.given = false → gv x = (cur x).deficit + (cur x).weight * 4 := fun h => if_neg (by rw [h]; decide)
    have hhd : hd0 x = (cur x).costs.getD 0 default := rfl
    obtain ⟨xl, xa, xg⟩ := x
    have hxa : xa = 0 ∨ xa = 1 ∨ xa = 2 ∨ xa = 3 ∨ xa = 4 ∨ xa = 5 := by dsimp only at hat h6; omega
    dsimp only at hlen hat adv_h srv_h hgt hgf
    have hcx : ∀ k : Nat, xa = k → cur ⟨xl, xa, xg⟩ = xl.getD k default ∧ pos ⟨xl, xa, xg⟩ = k := fun k h => by subst h; exact ⟨rfl, rfl⟩
    generalize hcu : cur ⟨xl, xa, xg⟩ = X at *
    generalize pos ⟨xl, xa, xg⟩ = a at *
    rcases hxa with rfl | rfl | rfl | rfl | rfl | rfl
    · obtain ⟨rfl, rfl⟩ := hcx 0 rfl
      clear hcx
      have hX' : xl.getD (addN 0 (Int.toNat 0)) default = xl.getD 0 default := rfl
      have hmx : (xl.getD 0 default).deficit ≤ 39 := Int.le_trans d2 hm
      dsimp only
      repeat' first | (with_reducible first | refine nI1 ?_ | refine nI2 ?_ | refine nI3 ?_ | exact ⟨⟩ | refine Both.mk (fun _ => ?_) fun _ => ?_ | refine Both2.mk (fun _ => ?_) ?_ | (refine Need.mk ?_ ?_; (first | omega | exact CEq.refl _ | (dsimp only; omega) | (simp only [addN_eq]; omega) | exact ⟨rfl, rfl⟩ | (simp only [rng]; omega) | (rw [hX']; simp only [rng]; omega) | (rw [hX']; omega)))) | ((with_reducible fail_if_success first | constructor | show False); conv => whnf)
      · rename_i h3
        have h3 : (xl.getD 0 default).costs = [] := List.length_eq_zero_iff.1 (by have := of_decide_eq_true h3; rw [hX'] at this; omega)
        obtain ⟨m, hm1, hm2, hm3, hm4, hm5⟩ := adv_h 0 (by decide) (.inl ⟨h3, rfl⟩)
        refine LoopEnd.mk ⟨m, hm1, hm2, ?_⟩
        rw [hm3, hm4, hm5]
        (refine Le.of ?_ ?_ <;> repeat' first | exact trivial | exact CEq.refl _ | exact rfl | exact cI (by push_cast; first | rfl | omega) | exact SubE.dat fun _ _ _ _ => CEq.refl _ | refine SubE.var2 ?_ ?_ | refine SubE.var1 ?_ | refine SubE.var3 ?_ ?_ ?_ | refine SubE.var4 ?_ ?_ ?_ ?_ | refine SubE.var5 ?_ ?_ ?_ ?_ ?_ | refine SubE.varN ?_ | refine Exists.intro _ (And.intro rfl ?_) | refine And.intro ?_ ?_)
        exact (IsL.def IsL.refl).sub (by rw [List.length_set]; exact hlen.symm)
      · rename_i h3 h4
        have hne : 0 < (xl.getD 0 default).costs.length := by have := of_decide_eq_false h3; rw [hX'] at this; omega
        have hne' : (xl.getD 0 default).costs ≠ [] := fun e => by rw [e] at hne; simp at hne
        have hg0 := hgf (by simpa using h4)
        repeat' first | (with_reducible first | refine nI1 ?_ | refine nI2 ?_ | refine nI3 ?_ | exact ⟨⟩ | refine Both.mk (fun _ => ?_) fun _ => ?_ | refine Both2.mk (fun _ => ?_) ?_ | (refine Need.mk ?_ ?_; (first | omega | exact CEq.refl _ | (dsimp only; omega) | (simp only [addN_eq]; omega) | exact ⟨rfl, rfl⟩ | (simp only [rng]; omega) | (rw [hX']; simp only [rng]; omega) | (rw [hX']; omega)))) | ((with_reducible fail_if_success first | constructor | show False); conv => whnf)
        · rename_i h5
          have h5 := of_decide_eq_true h5
          obtain ⟨m, hm1, hm2, hm3, hm4, hm5⟩ := adv_h ((xl.getD 0 default).deficit + (xl.getD 0 default).weight * 4) (by omega) (.inr ⟨hne', by rw [hg0, hhd]; exact h5, hg0.symm⟩)
          refine LoopEnd.mk ⟨m, hm1, hm2, ?_⟩
          rw [hm3, hm4, hm5]
          (refine Le.of ?_ ?_ <;> repeat' first | exact trivial | exact CEq.refl _ | exact rfl | exact cI (by push_cast; first | rfl | omega) | exact SubE.dat fun _ _ _ _ => CEq.refl _ | refine SubE.var2 ?_ ?_ | refine SubE.var1 ?_ | refine SubE.var3 ?_ ?_ ?_ | refine SubE.var4 ?_ ?_ ?_ ?_ | refine SubE.var5 ?_ ?_ ?_ ?_ ?_ | refine SubE.varN ?_ | refine Exists.intro _ (And.intro rfl ?_) | refine And.intro ?_ ?_)
          exact (IsL.def IsL.refl).sub (by rw [List.length_set]; exact hlen.symm)
        · rename_i h5
          have h5 := of_decide_eq_false h5
          have hs := srv_h hne' (by rw [hg0, hhd]; exact h5)
          refine CallVC.mk' (fun _ => sl_Clone_int_ok K.m K.cloneI ((xl.getD 0 default).costs.length - 1) (fun i j => intE (((xl.getD 0 default).costs.drop 1).getD i default) j) (by omega)) (fun _ => .cons (.one (CEq.slice fun i hi j hj => ?_)) .nil) ?_
          · rw [List.getD_eq_getElem?_getD (l := (xl.getD 0 default).costs.drop 1), List.getElem?_drop, ← List.getD_eq_getElem?_getD]
            exact CEq.refl _
          have hc1 : 1 ≤ (xl.getD 0 default).costs.getD (Int.toNat 0) default ∧ (xl.getD 0 default).costs.getD (Int.toNat 0) default ≤ 8 := cc _ (getD_mem hne)
          have hdl : ((xl.getD 0 default).costs.drop 1).length = (xl.getD 0 default).costs.length - 1 := List.length_drop ..
          have hcc : CEq (Cell.sl 1 ((xl.getD 0 default).costs.length - 1) fun i j => (fun i j => intE (((xl.getD 0 default).costs.drop 1).getD i default) j) (addN 0 i) j) (slL 1 intE ((xl.getD 0 default).costs.drop 1)) := IsL.refl.off.ceq hdl.symm
          repeat' first | (with_reducible first | refine nI1 ?_ | refine nI2 ?_ | refine nI3 ?_ | exact ⟨⟩ | refine Both.mk (fun _ => ?_) fun _ => ?_ | refine Both2.mk (fun _ => ?_) ?_ | (refine Need.mk ?_ ?_; (first | omega | exact CEq.refl _ | (dsimp only; omega) | (simp only [addN_eq]; omega) | exact ⟨rfl, rfl⟩ | (simp only [rng]; omega) | (rw [hX']; simp only [rng]; omega) | (rw [hX']; omega)))) | ((with_reducible fail_if_success first | constructor | show False); conv => whnf)
          · rename_i h6
            have h6 := of_decide_eq_true h6
            have hz : lsE (srv ⟨xl, 0, xg⟩) 0 = slL 3 lnE (xl.set 0 ⟨(xl.getD 0 default).weight, 0, (xl.getD 0 default).costs.drop 1⟩) := by
              show slL 3 lnE (xl.set 0 ⟨_, if (xl.getD 0 default).costs.drop 1 = [] then (0 : Int) else _, _⟩) = _
              rw [if_pos (List.length_eq_zero_iff.1 (by omega))]; rfl
            refine Out.mk (hQ _ _ ?_)
            rw [hs]
            repeat' first | (with_reducible first | refine nI1 ?_ | refine nI2 ?_ | refine nI3 ?_ | exact ⟨⟩ | refine Both.mk (fun _ => ?_) fun _ => ?_ | refine Both2.mk (fun _ => ?_) ?_ | (refine Need.mk ?_ ?_; (first | omega | exact CEq.refl _ | (dsimp only; omega) | (simp only [addN_eq]; omega) | exact ⟨rfl, rfl⟩ | (simp only [rng]; omega) | (rw [hX']; simp only [rng]; omega) | (rw [hX']; omega)))) | ((with_reducible fail_if_success first | constructor | show False); conv => whnf)
            refine Need.mk (by rw [hz]; exact ((((Upd.start.d).c hcc).d).d).isL.off.ceq (by rw [List.length_set]; exact hlen.symm)) ?_
            repeat' first | (with_reducible first | refine nI1 ?_ | refine nI2 ?_ | refine nI3 ?_ | exact ⟨⟩ | refine Both.mk (fun _ => ?_) fun _ => ?_ | refine Both2.mk (fun _ => ?_) ?_ | (refine Need.mk ?_ ?_; (first | omega | exact CEq.refl _ | (dsimp only; omega) | (simp only [addN_eq]; omega) | exact ⟨rfl, rfl⟩ | (simp only [rng]; omega) | (rw [hX']; simp only [rng]; omega) | (rw [hX']; omega)))) | ((with_reducible refine Need.mk ?_ ?_); exact CEq.refl _) | ((with_reducible fail_if_success first | constructor | show False); conv => whnf)
          · rename_i h6
            have h6 := of_decide_eq_false h6
            have hz : lsE (srv ⟨xl, 0, xg⟩) 0 = slL 3 lnE (xl.set 0 ⟨(xl.getD 0 default).weight, gv ⟨xl, 0, xg⟩ - (xl.getD 0 default).costs.getD 0 default, (xl.getD 0 default).costs.drop 1⟩) := by
              show slL 3 lnE (xl.set 0 ⟨_, if (xl.getD 0 default).costs.drop 1 = [] then (0 : Int) else _, _⟩) = _
              rw [if_neg (fun e => by rw [e] at hdl; exact h6 (by rw [← hdl]; rfl))]; rfl
            rw [hg0] at hz
            refine Out.mk (hQ _ _ ?_)
            rw [hs]
            repeat' first | (with_reducible first | refine nI1 ?_ | refine nI2 ?_ | refine nI3 ?_ | exact ⟨⟩ | refine Both.mk (fun _ => ?_) fun _ => ?_ | refine Both2.mk (fun _ => ?_) ?_ | (refine Need.mk ?_ ?_; (first | omega | exact CEq.refl _ | (dsimp only; omega) | (simp only [addN_eq]; omega) | exact ⟨rfl, rfl⟩ | (simp only [rng]; omega) | (rw [hX']; simp only [rng]; omega) | (rw [hX']; omega)))) | ((with_reducible fail_if_success first | constructor | show False); conv => whnf)
            refine Need.mk (by rw [hz]; exact (((Upd.start.d).c hcc).d).isL.off.ceq (by rw [List.length_set]; exact hlen.symm)) ?_
            repeat' first | (with_reducible first | refine nI1 ?_ | refine nI2 ?_ | refine nI3 ?_ | exact ⟨⟩ | refine Both.mk (fun _ => ?_) fun _ => ?_ | refine Both2.mk (fun _ => ?_) ?_ | (refine Need.mk ?_ ?_; (first | omega | exact CEq.refl _ | (dsimp only; omega) | (simp only [addN_eq]; omega) | exact ⟨rfl, rfl⟩ | (simp only [rng]; omega) | (rw [hX']; simp only [rng]; omega) | (rw [hX']; omega)))) | ((with_reducible refine Need.mk ?_ ?_); exact CEq.refl _) | ((with_reducible fail_if_success first | constructor | show False); conv => whnf)
      · rename_i h3 h4
        have hne : 0 < (xl.getD 0 default).costs.length := by have := of_decide_eq_false h3; rw [hX'] at this; omega
        have hne' : (xl.getD 0 default).costs ≠ [] := fun e => by rw [e] at hne; simp at hne
        obtain rfl : xg = true := by simpa using h4
        have hg0 := hgt rfl
        repeat' first | (with_reducible first | refine nI1 ?_ | refine nI2 ?_ | refine nI3 ?_ | exact ⟨⟩ | refine Both.mk (fun _ => ?_) fun _ => ?_ | refine Both2.mk (fun _ => ?_) ?_ | (refine Need.mk ?_ ?_; (first | omega | exact CEq.refl _ | (dsimp only; omega) | (simp only [addN_eq]; omega) | exact ⟨rfl, rfl⟩ | (simp only [rng]; omega) | (rw [hX']; simp only [rng]; omega) | (rw [hX']; omega)))) | ((with_reducible fail_if_success first | constructor | show False); conv => whnf)
        · rename_i h5
          have h5 := of_decide_eq_true h5
          obtain ⟨m, hm1, hm2, hm3, hm4, hm5⟩ := adv_h (xl.getD 0 default).deficit (by omega) (.inr ⟨hne', by rw [hg0, hhd]; exact h5, hg0.symm⟩)
          refine LoopEnd.mk ⟨m, hm1, hm2, ?_⟩
          rw [hm3, hm4, hm5]
          rw [setSelf]
          (refine Le.of ?_ ?_ <;> repeat' first | exact trivial | exact CEq.refl _ | exact rfl | exact cI (by push_cast; first | rfl | omega) | exact SubE.dat fun _ _ _ _ => CEq.refl _ | refine SubE.var2 ?_ ?_ | refine SubE.var1 ?_ | refine SubE.var3 ?_ ?_ ?_ | refine SubE.var4 ?_ ?_ ?_ ?_ | refine SubE.var5 ?_ ?_ ?_ ?_ ?_ | refine SubE.varN ?_ | refine Exists.intro _ (And.intro rfl ?_) | refine And.intro ?_ ?_)
        · rename_i h5
          have h5 := of_decide_eq_false h5
          have hs := srv_h hne' (by rw [hg0, hhd]; exact h5)
          refine CallVC.mk' (fun _ => sl_Clone_int_ok K.m K.cloneI ((xl.getD 0 default).costs.length - 1) (fun i j => intE (((xl.getD 0 default).costs.drop 1).getD i default) j) (by omega)) (fun _ => .cons (.one (CEq.slice fun i hi j hj => ?_)) .nil) ?_
          · rw [List.getD_eq_getElem?_getD (l := (xl.getD 0 default).costs.drop 1), List.getElem?_drop, ← List.getD_eq_getElem?_getD]
            exact CEq.refl _
          have hc1 : 1 ≤ (xl.getD 0 default).costs.getD (Int.toNat 0) default ∧ (xl.getD 0 default).costs.getD (Int.toNat 0) default ≤ 8 := cc _ (getD_mem hne)
          have hdl : ((xl.getD 0 default).costs.drop 1).length = (xl.getD 0 default).costs.length - 1 := List.length_drop ..
          have hcc : CEq (Cell.sl 1 ((xl.getD 0 default).costs.length - 1) fun i j => (fun i j => intE (((xl.getD 0 default).costs.drop 1).getD i default) j) (addN 0 i) j) (slL 1 intE ((xl.getD 0 default).costs.drop 1)) := IsL.refl.off.ceq hdl.symm
          repeat' first | (with_reducible first | refine nI1 ?_ | refine nI2 ?_ | refine nI3 ?_ | exact ⟨⟩ | refine Both.mk (fun _ => ?_) fun _ => ?_ | refine Both2.mk (fun _ => ?_) ?_ | (refine Need.mk ?_ ?_; (first | omega | exact CEq.refl _ | (dsimp only; omega) | (simp only [addN_eq]; omega) | exact ⟨rfl, rfl⟩ | (simp only [rng]; omega) | (rw [hX']; simp only [rng]; omega) | (rw [hX']; omega)))) | ((with_reducible fail_if_success first | constructor | show False); conv => whnf)
          · rename_i h6
            have h6 := of_decide_eq_true h6
            have hz : lsE (srv ⟨xl, 0, true⟩) 0 = slL 3 lnE (xl.set 0 ⟨(xl.getD 0 default).weight, 0, (xl.getD 0 default).costs.drop 1⟩) := by
              show slL 3 lnE (xl.set 0 ⟨_, if (xl.getD 0 default).costs.drop 1 = [] then (0 : Int) else _, _⟩) = _
              rw [if_pos (List.length_eq_zero_iff.1 (by omega))]; rfl
            refine Out.mk (hQ _ _ ?_)
            rw [hs]
            repeat' first | (with_reducible first | refine nI1 ?_ | refine nI2 ?_ | refine nI3 ?_ | exact ⟨⟩ | refine Both.mk (fun _ => ?_) fun _ => ?_ | refine Both2.mk (fun _ => ?_) ?_ | (refine Need.mk ?_ ?_; (first | omega | exact CEq.refl _ | (dsimp only; omega) | (simp only [addN_eq]; omega) | exact ⟨rfl, rfl⟩ | (simp only [rng]; omega) | (rw [hX']; simp only [rng]; omega) | (rw [hX']; omega)))) | ((with_reducible fail_if_success first | constructor | show False); conv => whnf)
            refine Need.mk (by rw [hz]; exact (((Upd.start.c hcc).d).d).isL.off.ceq (by rw [List.length_set]; exact hlen.symm)) ?_
            repeat' first | (with_reducible first | refine nI1 ?_ | refine nI2 ?_ | refine nI3 ?_ | exact ⟨⟩ | refine Both.mk (fun _ => ?_) fun _ => ?_ | refine Both2.mk (fun _ => ?_) ?_ | (refine Need.mk ?_ ?_; (first | omega | exact CEq.refl _ | (dsimp only; omega) | (simp only [addN_eq]; omega) | exact ⟨rfl, rfl⟩ | (simp only [rng]; omega) | (rw [hX']; simp only [rng]; omega) | (rw [hX']; omega)))) | ((with_reducible refine Need.mk ?_ ?_); exact CEq.refl _) | ((with_reducible fail_if_success first | constructor | show False); conv => whnf)
          · rename_i h6
            have h6 := of_decide_eq_false h6
            have hz : lsE (srv ⟨xl, 0, true⟩) 0 = slL 3 lnE (xl.set 0 ⟨(xl.getD 0 default).weight, gv ⟨xl, 0, true⟩ - (xl.getD 0 default).costs.getD 0 default, (xl.getD 0 default).costs.drop 1⟩) := by
              show slL 3 lnE (xl.set 0 ⟨_, if (xl.getD 0 default).costs.drop 1 = [] then (0 : Int) else _, _⟩) = _
              rw [if_neg (fun e => by rw [e] at hdl; exact h6 (by rw [← hdl]; rfl))]; rfl
            rw [hg0] at hz
            refine Out.mk (hQ _ _ ?_)
            rw [hs]
            repeat' first | (with_reducible first | refine nI1 ?_ | refine nI2 ?_ | refine nI3 ?_ | exact ⟨⟩ | refine Both.mk (fun _ => ?_) fun _ => ?_ | refine Both2.mk (fun _ => ?_) ?_ | (refine Need.mk ?_ ?_; (first | omega | exact CEq.refl _ | (dsimp only; omega) | (simp only [addN_eq]; omega) | exact ⟨rfl, rfl⟩ | (simp only [rng]; omega) | (rw [hX']; simp only [rng]; omega) | (rw [hX']; omega)))) | ((with_reducible fail_if_success first | constructor | show False); conv => whnf)
            refine Need.mk (by rw [hz]; exact ((Upd.start.c hcc).d).isL.off.ceq (by rw [List.length_set]; exact hlen.symm)) ?_
            repeat' first | (with_reducible first | refine nI1 ?_ | refine nI2 ?_ | refine nI3 ?_ | exact ⟨⟩ | refine Both.mk (fun _ => ?_) fun _ => ?_ | refine Both2.mk (fun _ => ?_) ?_ | (refine Need.mk ?_ ?_; (first | omega | exact CEq.refl _ | (dsimp only; omega) | (simp only [addN_eq]; omega) | exact ⟨rfl, rfl⟩ | (simp only [rng]; omega) | (rw [hX']; simp only [rng]; omega) | (rw [hX']; omega)))) | ((with_reducible refine Need.mk ?_ ?_); exact CEq.refl _) | ((with_reducible fail_if_success first | constructor | show False); conv => whnf)
    · obtain ⟨rfl, rfl⟩ := hcx 1 rfl
      clear hcx
      have hX' : xl.getD (addN 0 (Int.toNat 1)) default = xl.getD 1 default := rfl
      have hmx : (xl.getD 1 default).deficit ≤ 39 := Int.le_trans d2 hm
      dsimp only
      repeat' first | (with_reducible first | refine nI1 ?_ | refine nI2 ?_ | refine nI3 ?_ | exact ⟨⟩ | refine Both.mk (fun _ => ?_) fun _ => ?_ | refine Both2.mk (fun _ => ?_) ?_ | (refine Need.mk ?_ ?_; (first | omega | exact CEq.refl _ | (dsimp only; omega) | (simp only [addN_eq]; omega) | exact ⟨rfl, rfl⟩ | (simp only [rng]; omega) | (rw [hX']; simp only [rng]; omega) | (rw [hX']; omega)))) | ((with_reducible fail_if_success first | constructor | show False); conv => whnf)
      · rename_i h3
        have h3 : (xl.getD 1 default).costs = [] := List.length_eq_zero_iff.1 (by have := of_decide_eq_true h3; rw [hX'] at this; omega)
        obtain ⟨m, hm1, hm2, hm3, hm4, hm5⟩ := adv_h 0 (by decide) (.inl ⟨h3, rfl⟩)
        refine LoopEnd.mk ⟨m, hm1, hm2, ?_⟩
        rw [hm3, hm4, hm5]
        (refine Le.of ?_ ?_ <;> repeat' first | exact trivial | exact CEq.refl _ | exact rfl | exact cI (by push_cast; first | rfl | omega) | exact SubE.dat fun _ _ _ _ => CEq.refl _ | refine SubE.var2 ?_ ?_ | refine SubE.var1 ?_ | refine SubE.var3 ?_ ?_ ?_ | refine SubE.var4 ?_ ?_ ?_ ?_ | refine SubE.var5 ?_ ?_ ?_ ?_ ?_ | refine SubE.varN ?_ | refine Exists.intro _ (And.intro rfl ?_) | refine And.intro ?_ ?_)
        exact (IsL.def IsL.refl).sub (by rw [List.length_set]; exact hlen.symm)
      · rename_i h3 h4
        have hne : 0 < (xl.getD 1 default).costs.length := by have := of_decide_eq_false h3; rw [hX'] at this; omega
        have hne' : (xl.getD 1 default).costs ≠ [] := fun e => by rw [e] at hne; simp at hne
        have hg0 := hgf (by simpa using h4)
        repeat' first | (with_reducible first | refine nI1 ?_ | refine nI2 ?_ | refine nI3 ?_ | exact ⟨⟩ | refine Both.mk (fun _ => ?_) fun _ => ?_ | refine Both2.mk (fun _ => ?_) ?_ | (refine Need.mk ?_ ?_; (first | omega | exact CEq.refl _ | (dsimp only; omega) | (simp only [addN_eq]; omega) | exact ⟨rfl, rfl⟩ | (simp only [rng]; omega) | (rw [hX']; simp only [rng]; omega) | (rw [hX']; omega)))) | ((with_reducible fail_if_success first | constructor | show False); conv => whnf)
        · rename_i h5
          have h5 := of_decide_eq_true h5
          obtain ⟨m, hm1, hm2, hm3, hm4, hm5⟩ := adv_h ((xl.getD 1 default).deficit + (xl.getD 1 default).weight * 4) (by omega) (.inr ⟨hne', by rw [hg0, hhd]; exact h5, hg0.symm⟩)
          refine LoopEnd.mk ⟨m, hm1, hm2, ?_⟩
          rw [hm3, hm4, hm5]
          (refine Le.of ?_ ?_ <;> repeat' first | exact trivial | exact CEq.refl _ | exact rfl | exact cI (by push_cast; first | rfl | omega) | exact SubE.dat fun _ _ _ _ => CEq.refl _ | refine SubE.var2 ?_ ?_ | refine SubE.var1 ?_ | refine SubE.var3 ?_ ?_ ?_ | refine SubE.var4 ?_ ?_ ?_ ?_ | refine SubE.var5 ?_ ?_ ?_ ?_ ?_ | refine SubE.varN ?_ | refine Exists.intro _ (And.intro rfl ?_) | refine And.intro ?_ ?_)
          exact (IsL.def IsL.refl).sub (by rw [List.length_set]; exact hlen.symm)
        · rename_i h5
          have h5 := of_decide_eq_false h5
          have hs := srv_h hne' (by rw [hg0, hhd]; exact h5)
          refine CallVC.mk' (fun _ => sl_Clone_int_ok K.m K.cloneI ((xl.getD 1 default).costs.length - 1) (fun i j => intE (((xl.getD 1 default).costs.drop 1).getD i default) j) (by omega)) (fun _ => .cons (.one (CEq.slice fun i hi j hj => ?_)) .nil) ?_
          · rw [List.getD_eq_getElem?_getD (l := (xl.getD 1 default).costs.drop 1), List.getElem?_drop, ← List.getD_eq_getElem?_getD]
            exact CEq.refl _
          have hc1 : 1 ≤ (xl.getD 1 default).costs.getD (Int.toNat 0) default ∧ (xl.getD 1 default).costs.getD (Int.toNat 0) default ≤ 8 := cc _ (getD_mem hne)
          have hdl : ((xl.getD 1 default).costs.drop 1).length = (xl.getD 1 default).costs.length - 1 := List.length_drop ..
          have hcc : CEq (Cell.sl 1 ((xl.getD 1 default).costs.length - 1) fun i j => (fun i j => intE (((xl.getD 1 default).costs.drop 1).getD i default) j) (addN 0 i) j) (slL 1 intE ((xl.getD 1 default).costs.drop 1)) := IsL.refl.off.ceq hdl.symm
          repeat' first | (with_reducible first | refine nI1 ?_ | refine nI2 ?_ | refine nI3 ?_ | exact ⟨⟩ | refine Both.mk (fun _ => ?_) fun _ => ?_ | refine Both2.mk (fun _ => ?_) ?_ | (refine Need.mk ?_ ?_; (first | omega | exact CEq.refl _ | (dsimp only; omega) | (simp only [addN_eq]; omega) | exact ⟨rfl, rfl⟩ | (simp only [rng]; omega) | (rw [hX']; simp only [rng]; omega) | (rw [hX']; omega)))) | ((with_reducible fail_if_success first | constructor | show False); conv => whnf)
          · rename_i h6
            have h6 := of_decide_eq_true h6
            have hz : lsE (srv ⟨xl, 1, xg⟩) 0 = slL 3 lnE (xl.set 1 ⟨(xl.getD 1 default).weight, 0, (xl.getD 1 default).costs.drop 1⟩) := by
              show slL 3 lnE (xl.set 1 ⟨_, if (xl.getD 1 default).costs.drop 1 = [] then (0 : Int) else _, _⟩) = _
              rw [if_pos (List.length_eq_zero_iff.1 (by omega))]; rfl
            refine Out.mk (hQ _ _ ?_)
            rw [hs]
            repeat' first | (with_reducible first | refine nI1 ?_ | refine nI2 ?_ | refine nI3 ?_ | exact ⟨⟩ | refine Both.mk (fun _ => ?_) fun _ => ?_ | refine Both2.mk (fun _ => ?_) ?_ | (refine Need.mk ?_ ?_; (first | omega | exact CEq.refl _ | (dsimp only; omega) | (simp only [addN_eq]; omega) | exact ⟨rfl, rfl⟩ | (simp only [rng]; omega) | (rw [hX']; simp only [rng]; omega) | (rw [hX']; omega)))) | ((with_reducible fail_if_success first | constructor | show False); conv => whnf)
            refine Need.mk (by rw [hz]; exact ((((Upd.start.d).c hcc).d).d).isL.off.ceq (by rw [List.length_set]; exact hlen.symm)) ?_
            repeat' first | (with_reducible first | refine nI1 ?_ | refine nI2 ?_ | refine nI3 ?_ | exact ⟨⟩ | refine Both.mk (fun _ => ?_) fun _ => ?_ | refine Both2.mk (fun _ => ?_) ?_ | (refine Need.mk ?_ ?_; (first | omega | exact CEq.refl _ | (dsimp only; omega) | (simp only [addN_eq]; omega) | exact ⟨rfl, rfl⟩ | (simp only [rng]; omega) | (rw [hX']; simp only [rng]; omega) | (rw [hX']; omega)))) | ((with_reducible refine Need.mk ?_ ?_); exact CEq.refl _) | ((with_reducible fail_if_success first | constructor | show False); conv => whnf)
          · rename_i h6
            have h6 := of_decide_eq_false h6
            have hz : lsE (srv ⟨xl, 1, xg⟩) 0 = slL 3 lnE (xl.set 1 ⟨(xl.getD 1 default).weight, gv ⟨xl, 1, xg⟩ - (xl.getD 1 default).costs.getD 0 default, (xl.getD 1 default).costs.drop 1⟩) := by
              show slL 3 lnE (xl.set 1 ⟨_, if (xl.getD 1 default).costs.drop 1 = [] then (0 : Int) else _, _⟩) = _
              rw [if_neg (fun e => by rw [e] at hdl; exact h6 (by rw [← hdl]; rfl))]; rfl
            rw [hg0] at hz
            refine Out.mk (hQ _ _ ?_)
            rw [hs]
            repeat' first | (with_reducible first | refine nI1 ?_ | refine nI2 ?_ | refine nI3 ?_ | exact ⟨⟩ | refine Both.mk (fun _ => ?_) fun _ => ?_ | refine Both2.mk (fun _ => ?_) ?_ | (refine Need.mk ?_ ?_; (first | omega | exact CEq.refl _ | (dsimp only; omega) | (simp only [addN_eq]; omega) | exact ⟨rfl, rfl⟩ | (simp only [rng]; omega) | (rw [hX']; simp only [rng]; omega) | (rw [hX']; omega)))) | ((with_reducible fail_if_success first | constructor | show False); conv => whnf)
            refine Need.mk (by rw [hz]; exact (((Upd.start.d).c hcc).d).isL.off.ceq (by rw [List.length_set]; exact hlen.symm)) ?_
            repeat' first | (with_reducible first | refine nI1 ?_ | refine nI2 ?_ | refine nI3 ?_ | exact ⟨⟩ | refine Both.mk (fun _ => ?_) fun _ => ?_ | refine Both2.mk (fun _ => ?_) ?_ | (refine Need.mk ?_ ?_; (first | omega | exact CEq.refl _ | (dsimp only; omega) | (simp only [addN_eq]; omega) | exact ⟨rfl, rfl⟩ | (simp only [rng]; omega) | (rw [hX']; simp only [rng]; omega) | (rw [hX']; omega)))) | ((with_reducible refine Need.mk ?_ ?_); exact CEq.refl _) | ((with_reducible fail_if_success first | constructor | show False); conv => whnf)
      · rename_i h3 h4
        have hne : 0 < (xl.getD 1 default).costs.length := by have := of_decide_eq_false h3; rw [hX'] at this; omega
        have hne' : (xl.getD 1 default).costs ≠ [] := fun e => by rw [e] at hne; simp at hne
        obtain rfl : xg = true := by simpa using h4
        have hg0 := hgt rfl
        repeat' first | (with_reducible first | refine nI1 ?_ | refine nI2 ?_ | refine nI3 ?_ | exact ⟨⟩ | refine Both.mk (fun _ => ?_) fun _ => ?_ | refine Both2.mk (fun _ => ?_) ?_ | (refine Need.mk ?_ ?_; (first | omega | exact CEq.refl _ | (dsimp only; omega) | (simp only [addN_eq]; omega) | exact ⟨rfl, rfl⟩ | (simp only [rng]; omega) | (rw [hX']; simp only [rng]; omega) | (rw [hX']; omega)))) | ((with_reducible fail_if_success first | constructor | show False); conv => whnf)
        · rename_i h5
          have h5 := of_decide_eq_true h5
          obtain ⟨m, hm1, hm2, hm3, hm4, hm5⟩ := adv_h (xl.getD 1 default).deficit (by omega) (.inr ⟨hne', by rw [hg0, hhd]; exact h5, hg0.symm⟩)
          refine LoopEnd.mk ⟨m, hm1, hm2, ?_⟩
          rw [hm3, hm4, hm5]
          rw [setSelf]
          (refine Le.of ?_ ?_ <;> repeat' first | exact trivial | exact CEq.refl _ | exact rfl | exact cI (by push_cast; first | rfl | omega) | exact SubE.dat fun _ _ _ _ => CEq.refl _ | refine SubE.var2 ?_ ?_ | refine SubE.var1 ?_ | refine SubE.var3 ?_ ?_ ?_ | refine SubE.var4 ?_ ?_ ?_ ?_ | refine SubE.var5 ?_ ?_ ?_ ?_ ?_ | refine SubE.varN ?_ | refine Exists.intro _ (And.intro rfl ?_) | refine And.intro ?_ ?_)
        · rename_i h5
          have h5 := of_decide_eq_false h5
          have hs := srv_h hne' (by rw [hg0, hhd]; exact h5)
          refine CallVC.mk' (fun _ => sl_Clone_int_ok K.m K.cloneI ((xl.getD 1 default).costs.length - 1) (fun i j => intE (((xl.getD 1 default).costs.drop 1).getD i default) j) (by omega)) (fun _ => .cons (.one (CEq.slice fun i hi j hj => ?_)) .nil) ?_
          · rw [List.getD_eq_getElem?_getD (l := (xl.getD 1 default).costs.drop 1), List.getElem?_drop, ← List.getD_eq_getElem?_getD]
            exact CEq.refl _
          have hc1 : 1 ≤ (xl.getD 1 default).costs.getD (Int.toNat 0) default ∧ (xl.getD 1 default).costs.getD (Int.toNat 0) default ≤ 8 := cc _ (getD_mem hne)
          have hdl : ((xl.getD 1 default).costs.drop 1).length = (xl.getD 1 default).costs.length - 1 := List.length_drop ..
          have hcc : CEq (Cell.sl 1 ((xl.getD 1 default).costs.length - 1) fun i j => (fun i j => intE (((xl.getD 1 default).costs.drop 1).getD i default) j) (addN 0 i) j) (slL 1 intE ((xl.getD 1 default).costs.drop 1)) := IsL.refl.off.ceq hdl.symm
          repeat' first | (with_reducible first | refine nI1 ?_ | refine nI2 ?_ | refine nI3 ?_ | exact ⟨⟩ | refine Both.mk (fun _ => ?_) fun _ => ?_ | refine Both2.mk (fun _ => ?_) ?_ | (refine Need.mk ?_ ?_; (first | omega | exact CEq.refl _ | (dsimp only; omega) | (simp only [addN_eq]; omega) | exact ⟨rfl, rfl⟩ | (simp only [rng]; omega) | (rw [hX']; simp only [rng]; omega) | (rw [hX']; omega)))) | ((with_reducible fail_if_success first | constructor | show False); conv => whnf)
          · rename_i h6
            have h6 := of_decide_eq_true h6
            have hz : lsE (srv ⟨xl, 1, true⟩) 0 = slL 3 lnE (xl.set 1 ⟨(xl.getD 1 default).weight, 0, (xl.getD 1 default).costs.drop 1⟩) := by
              show slL 3 lnE (xl.set 1 ⟨_, if (xl.getD 1 default).costs.drop 1 = [] then (0 : Int) else _, _⟩) = _
              rw [if_pos (List.length_eq_zero_iff.1 (by omega))]; rfl
            refine Out.mk (hQ _ _ ?_)
            rw [hs]
            repeat' first | (with_reducible first | refine nI1 ?_ | refine nI2 ?_ | refine nI3 ?_ | exact ⟨⟩ | refine Both.mk (fun _ => ?_) fun _ => ?_ | refine Both2.mk (fun _ => ?_) ?_ | (refine Need.mk ?_ ?_; (first | omega | exact CEq.refl _ | (dsimp only; omega) | (simp only [addN_eq]; omega) | exact ⟨rfl, rfl⟩ | (simp only [rng]; omega) | (rw [hX']; simp only [rng]; omega) | (rw [hX']; omega)))) | ((with_reducible fail_if_success first | constructor | show False); conv => whnf)
            refine Need.mk (by rw [hz]; exact (((Upd.start.c hcc).d).d).isL.off.ceq (by rw [List.length_set]; exact hlen.symm)) ?_
            repeat' first | (with_reducible first | refine nI1 ?_ | refine nI2 ?_ | refine nI3 ?_ | exact ⟨⟩ | refine Both.mk (fun _ => ?_) fun _ => ?_ | refine Both2.mk (fun _ => ?_) ?_ | (refine Need.mk ?_ ?_; (first | omega | exact CEq.refl _ | (dsimp only; omega) | (simp only [addN_eq]; omega) | exact ⟨rfl, rfl⟩ | (simp only [rng]; omega) | (rw [hX']; simp only [rng]; omega) | (rw [hX']; omega)))) | ((with_reducible refine Need.mk ?_ ?_); exact CEq.refl _) | ((with_reducible fail_if_success first | constructor | show False); conv => whnf)
          · rename_i h6
            have h6 := of_decide_eq_false h6
            have hz : lsE (srv ⟨xl, 1, true⟩) 0 = slL 3 lnE (xl.set 1 ⟨(xl.getD 1 default).weight, gv ⟨xl, 1, true⟩ - (xl.getD 1 default).costs.getD 0 default, (xl.getD 1 default).costs.drop 1⟩) := by
              show slL 3 lnE (xl.set 1 ⟨_, if (xl.getD 1 default).costs.drop 1 = [] then (0 : Int) else _, _⟩) = _
              rw [if_neg (fun e => by rw [e] at hdl; exact h6 (by rw [← hdl]; rfl))]; rfl
            rw [hg0] at hz
            refine Out.mk (hQ _ _ ?_)
            rw [hs]
            repeat' first | (with_reducible first | refine nI1 ?_ | refine nI2 ?_ | refine nI3 ?_ | exact ⟨⟩ | refine Both.mk (fun _ => ?_) fun _ => ?_ | refine Both2.mk (fun _ => ?_) ?_ | (refine Need.mk ?_ ?_; (first | omega | exact CEq.refl _ | (dsimp only; omega) | (simp only [addN_eq]; omega) | exact ⟨rfl, rfl⟩ | (simp only [rng]; omega) | (rw [hX']; simp only [rng]; omega) | (rw [hX']; omega)))) | ((with_reducible fail_if_success first | constructor | show False); conv => whnf)
            refine Need.mk (by rw [hz]; exact ((Upd.start.c hcc).d).isL.off.ceq (by rw [List.length_set]; exact hlen.symm)) ?_
            repeat' first | (with_reducible first | refine nI1 ?_ | refine nI2 ?_ | refine nI3 ?_ | exact ⟨⟩ | refine Both.mk (fun _ => ?_) fun _ => ?_ | refine Both2.mk (fun _ => ?_) ?_ | (refine Need.mk ?_ ?_; (first | omega | exact CEq.refl _ | (dsimp only; omega) | (simp only [addN_eq]; omega) | exact ⟨rfl, rfl⟩ | (simp only [rng]; omega) | (rw [hX']; simp only [rng]; omega) | (rw [hX']; omega)))) | ((with_reducible refine Need.mk ?_ ?_); exact CEq.refl _) | ((with_reducible fail_if_success first | constructor | show False); conv => whnf)
    · obtain ⟨rfl, rfl⟩ := hcx 2 rfl
      clear hcx
      have hX' : xl.getD (addN 0 (Int.toNat 2)) default = xl.getD 2 default := rfl
      have hmx : (xl.getD 2 default).deficit ≤ 39 := Int.le_trans d2 hm
      dsimp only
      repeat' first | (with_reducible first | refine nI1 ?_ | refine nI2 ?_ | refine nI3 ?_ | exact ⟨⟩ | refine Both.mk (fun _ => ?_) fun _ => ?_ | refine Both2.mk (fun _ => ?_) ?_ | (refine Need.mk ?_ ?_; (first | omega | exact CEq.refl _ | (dsimp only; omega) | (simp only [addN_eq]; omega) | exact ⟨rfl, rfl⟩ | (simp only [rng]; omega) | (rw [hX']; simp only [rng]; omega) | (rw [hX']; omega)))) | ((with_reducible fail_if_success first | constructor | show False); conv => whnf)
      · rename_i h3
        have h3 : (xl.getD 2 default).costs = [] := List.length_eq_zero_iff.1 (by have := of_decide_eq_true h3; rw [hX'] at this; omega)
        obtain ⟨m, hm1, hm2, hm3, hm4, hm5⟩ := adv_h 0 (by decide) (.inl ⟨h3, rfl⟩)
        refine LoopEnd.mk ⟨m, hm1, hm2, ?_⟩
        rw [hm3, hm4, hm5]
        (refine Le.of ?_ ?_ <;> repeat' first | exact trivial | exact CEq.refl _ | exact rfl | exact cI (by push_cast; first | rfl | omega) | exact SubE.dat fun _ _ _ _ => CEq.refl _ | refine SubE.var2 ?_ ?_ | refine SubE.var1 ?_ | refine SubE.var3 ?_ ?_ ?_ | refine SubE.var4 ?_ ?_ ?_ ?_ | refine SubE.var5 ?_ ?_ ?_ ?_ ?_ | refine SubE.varN ?_ | refine Exists.intro _ (And.intro rfl ?_) | refine And.intro ?_ ?_)
        exact (IsL.def IsL.refl).sub (by rw [List.length_set]; exact hlen.symm)
      · rename_i h3 h4
        have hne : 0 < (xl.getD 2 default).costs.length := by have := of_decide_eq_false h3; rw [hX'] at this; omega
        have hne' : (xl.getD 2 default).costs ≠ [] := fun e => by rw [e] at hne; simp at hne
        have hg0 := hgf (by simpa using h4)
        repeat' first | (with_reducible first | refine nI1 ?_ | refine nI2 ?_ | refine nI3 ?_ | exact ⟨⟩ | refine Both.mk (fun _ => ?_) fun _ => ?_ | refine Both2.mk (fun _ => ?_) ?_ | (refine Need.mk ?_ ?_; (first | omega | exact CEq.refl _ | (dsimp only; omega) | (simp only [addN_eq]; omega) | exact ⟨rfl, rfl⟩ | (simp only [rng]; omega) | (rw [hX']; simp only [rng]; omega) | (rw [hX']; omega)))) | ((with_reducible fail_if_success first | constructor | show False); conv => whnf)
        · rename_i h5
          have h5 := of_decide_eq_true h5
          obtain ⟨m, hm1, hm2, hm3, hm4, hm5⟩ := adv_h ((xl.getD 2 default).deficit + (xl.getD 2 default).weight * 4) (by omega) (.inr ⟨hne', by rw [hg0, hhd]; exact h5, hg0.symm⟩)
          refine LoopEnd.mk ⟨m, hm1, hm2, ?_⟩
          rw [hm3, hm4, hm5]
          (refine Le.of ?_ ?_ <;> repeat' first | exact trivial | exact CEq.refl _ | exact rfl | exact cI (by push_cast; first | rfl | omega) | exact SubE.dat fun _ _ _ _ => CEq.refl _ | refine SubE.var2 ?_ ?_ | refine SubE.var1 ?_ | refine SubE.var3 ?_ ?_ ?_ | refine SubE.var4 ?_ ?_ ?_ ?_ | refine SubE.var5 ?_ ?_ ?_ ?_ ?_ | refine SubE.varN ?_ | refine Exists.intro _ (And.intro rfl ?_) | refine And.intro ?_ ?_)
          exact (IsL.def IsL.refl).sub (by rw [List.length_set]; exact hlen.symm)
        · rename_i h5
          have h5 := of_decide_eq_false h5
          have hs := srv_h hne' (by rw [hg0, hhd]; exact h5)
          refine CallVC.mk' (fun _ => sl_Clone_int_ok K.m K.cloneI ((xl.getD 2 default).costs.length - 1) (fun i j => intE (((xl.getD 2 default).costs.drop 1).getD i default) j) (by omega)) (fun _ => .cons (.one (CEq.slice fun i hi j hj => ?_)) .nil) ?_
          · rw [List.getD_eq_getElem?_getD (l := (xl.getD 2 default).costs.drop 1), List.getElem?_drop, ← List.getD_eq_getElem?_getD]
            exact CEq.refl _
          have hc1 : 1 ≤ (xl.getD 2 default).costs.getD (Int.toNat 0) default ∧ (xl.getD 2 default).costs.getD (Int.toNat 0) default ≤ 8 := cc _ (getD_mem hne)
          have hdl : ((xl.getD 2 default).costs.drop 1).length = (xl.getD 2 default).costs.length - 1 := List.length_drop ..
          have hcc : CEq (Cell.sl 1 ((xl.getD 2 default).costs.length - 1) fun i j => (fun i j => intE (((xl.getD 2 default).costs.drop 1).getD i default) j) (addN 0 i) j) (slL 1 intE ((xl.getD 2 default).costs.drop 1)) := IsL.refl.off.ceq hdl.symm
          repeat' first | (with_reducible first | refine nI1 ?_ | refine nI2 ?_ | refine nI3 ?_ | exact ⟨⟩ | refine Both.mk (fun _ => ?_) fun _ => ?_ | refine Both2.mk (fun _ => ?_) ?_ | (refine Need.mk ?_ ?_; (first | omega | exact CEq.refl _ | (dsimp only; omega) | (simp only [addN_eq]; omega) | exact ⟨rfl, rfl⟩ | (simp only [rng]; omega) | (rw [hX']; simp only [rng]; omega) | (rw [hX']; omega)))) | ((with_reducible fail_if_success first | constructor | show False); conv => whnf)
          · rename_i h6
            have h6 := of_decide_eq_true h6
            have hz : lsE (srv ⟨xl, 2, xg⟩) 0 = slL 3 lnE (xl.set 2 ⟨(xl.getD 2 default).weight, 0, (xl.getD 2 default).costs.drop 1⟩) := by
              show slL 3 lnE (xl.set 2 ⟨_, if (xl.getD 2 default).costs.drop 1 = [] then (0 : Int) else _, _⟩) = _
              rw [if_pos (List.length_eq_zero_iff.1 (by omega))]; rfl
            refine Out.mk (hQ _ _ ?_)
            rw [hs]
            repeat' first | (with_reducible first | refine nI1 ?_ | refine nI2 ?_ | refine nI3 ?_ | exact ⟨⟩ | refine Both.mk (fun _ => ?_) fun _ => ?_ | refine Both2.mk (fun _ => ?_) ?_ | (refine Need.mk ?_ ?_; (first | omega | exact CEq.refl _ | (dsimp only; omega) | (simp only [addN_eq]; omega) | exact ⟨rfl, rfl⟩ | (simp only [rng]; omega) | (rw [hX']; simp only [rng]; omega) | (rw [hX']; omega)))) | ((with_reducible fail_if_success first | constructor | show False); conv => whnf)
            refine Need.mk (by rw [hz]; exact ((((Upd.start.d).c hcc).d).d).isL.off.ceq (by rw [List.length_set]; exact hlen.symm)) ?_
            repeat' first | (with_reducible first | refine nI1 ?_ | refine nI2 ?_ | refine nI3 ?_ | exact ⟨⟩ | refine Both.mk (fun _ => ?_) fun _ => ?_ | refine Both2.mk (fun _ => ?_) ?_ | (refine Need.mk ?_ ?_; (first | omega | exact CEq.refl _ | (dsimp only; omega) | (simp only [addN_eq]; omega) | exact ⟨rfl, rfl⟩ | (simp only [rng]; omega) | (rw [hX']; simp only [rng]; omega) | (rw [hX']; omega)))) | ((with_reducible refine Need.mk ?_ ?_); exact CEq.refl _) | ((with_reducible fail_if_success first | constructor | show False); conv => whnf)
          · rename_i h6
            have h6 := of_decide_eq_false h6
            have hz : lsE (srv ⟨xl, 2, xg⟩) 0 = slL 3 lnE (xl.set 2 ⟨(xl.getD 2 default).weight, gv ⟨xl, 2, xg⟩ - (xl.getD 2 default).costs.getD 0 default, (xl.getD 2 default).costs.drop 1⟩) := by
              show slL 3 lnE (xl.set 2 ⟨_, if (xl.getD 2 default).costs.drop 1 = [] then (0 : Int) else _, _⟩) = _
              rw [if_neg (fun e => by rw [e] at hdl; exact h6 (by rw [← hdl]; rfl))]; rfl
            rw [hg0] at hz
            refine Out.mk (hQ _ _ ?_)
            rw [hs]
            repeat' first | (with_reducible first | refine nI1 ?_ | refine nI2 ?_ | refine nI3 ?_ | exact ⟨⟩ | refine Both.mk (fun _ => ?_) fun _ => ?_ | refine Both2.mk (fun _ => ?_) ?_ | (refine Need.mk ?_ ?_; (first | omega | exact CEq.refl _ | (dsimp only; omega) | (simp only [addN_eq]; omega) | exact ⟨rfl, rfl⟩ | (simp only [rng]; omega) | (rw [hX']; simp only [rng]; omega) | (rw [hX']; omega)))) | ((with_reducible fail_if_success first | constructor | show False); conv => whnf)
            refine Need.mk (by rw [hz]; exact (((Upd.start.d).c hcc).d).isL.off.ceq (by rw [List.length_set]; exact hlen.symm)) ?_
            repeat' first | (with_reducible first | refine nI1 ?_ | refine nI2 ?_ | refine nI3 ?_ | exact ⟨⟩ | refine Both.mk (fun _ => ?_) fun _ => ?_ | refine Both2.mk (fun _ => ?_) ?_ | (refine Need.mk ?_ ?_; (first | omega | exact CEq.refl _ | (dsimp only; omega) | (simp only [addN_eq]; omega) | exact ⟨rfl, rfl⟩ | (simp only [rng]; omega) | (rw [hX']; simp only [rng]; omega) | (rw [hX']; omega)))) | ((with_reducible refine Need.mk ?_ ?_); exact CEq.refl _) | ((with_reducible fail_if_success first | constructor | show False); conv => whnf)
      · rename_i h3 h4
        have hne : 0 < (xl.getD 2 default).costs.length := by have := of_decide_eq_false h3; rw [hX'] at this; omega
        have hne' : (xl.getD 2 default).costs ≠ [] := fun e => by rw [e] at hne; simp at hne
        obtain rfl : xg = true := by simpa using h4
        have hg0 := hgt rfl
        repeat' first | (with_reducible first | refine nI1 ?_ | refine nI2 ?_ | refine nI3 ?_ | exact ⟨⟩ | refine Both.mk (fun _ => ?_) fun _ => ?_ | refine Both2.mk (fun _ => ?_) ?_ | (refine Need.mk ?_ ?_; (first | omega | exact CEq.refl _ | (dsimp only; omega) | (simp only [addN_eq]; omega) | exact ⟨rfl, rfl⟩ | (simp only [rng]; omega) | (rw [hX']; simp only [rng]; omega) | (rw [hX']; omega)))) | ((with_reducible fail_if_success first | constructor | show False); conv => whnf)
        · rename_i h5
          have h5 := of_decide_eq_true h5
          obtain ⟨m, hm1, hm2, hm3, hm4, hm5⟩ := adv_h (xl.getD 2 default).deficit (by omega) (.inr ⟨hne', by rw [hg0, hhd]; exact h5, hg0.symm⟩)
          refine LoopEnd.mk ⟨m, hm1, hm2, ?_⟩
          rw [hm3, hm4, hm5]
          rw [setSelf]
          (refine Le.of ?_ ?_ <;> repeat' first | exact trivial | exact CEq.refl _ | exact rfl | exact cI (by push_cast; first | rfl | omega) | exact SubE.dat fun _ _ _ _ => CEq.refl _ | refine SubE.var2 ?_ ?_ | refine SubE.var1 ?_ | refine SubE.var3 ?_ ?_ ?_ | refine SubE.var4 ?_ ?_ ?_ ?_ | refine SubE.var5 ?_ ?_ ?_ ?_ ?_ | refine SubE.varN ?_ | refine Exists.intro _ (And.intro rfl ?_) | refine And.intro ?_ ?_)
        · rename_i h5
          have h5 := of_decide_eq_false h5
          have hs := srv_h hne' (by rw [hg0, hhd]; exact h5)
          refine CallVC.mk' (fun _ => sl_Clone_int_ok K.m K.cloneI ((xl.getD 2 default).costs.length - 1) (fun i j => intE (((xl.getD 2 default).costs.drop 1).getD i default) j) (by omega)) (fun _ => .cons (.one (CEq.slice fun i hi j hj => ?_)) .nil) ?_
          · rw [List.getD_eq_getElem?_getD (l := (xl.getD 2 default).costs.drop 1), List.getElem?_drop, ← List.getD_eq_getElem?_getD]
            exact CEq.refl _
          have hc1 : 1 ≤ (xl.getD 2 default).costs.getD (Int.toNat 0) default ∧ (xl.getD 2 default).costs.getD (Int.toNat 0) default ≤ 8 := cc _ (getD_mem hne)
          have hdl : ((xl.getD 2 default).costs.drop 1).length = (xl.getD 2 default).costs.length - 1 := List.length_drop ..
          have hcc : CEq (Cell.sl 1 ((xl.getD 2 default).costs.length - 1) fun i j => (fun i j => intE (((xl.getD 2 default).costs.drop 1).getD i default) j) (addN 0 i) j) (slL 1 intE ((xl.getD 2 default).costs.drop 1)) := IsL.refl.off.ceq hdl.symm
          repeat' first | (with_reducible first | refine nI1 ?_ | refine nI2 ?_ | refine nI3 ?_ | exact ⟨⟩ | refine Both.mk (fun _ => ?_) fun _ => ?_ | refine Both2.mk (fun _ => ?_) ?_ | (refine Need.mk ?_ ?_; (first | omega | exact CEq.refl _ | (dsimp only; omega) | (simp only [addN_eq]; omega) | exact ⟨rfl, rfl⟩ | (simp only [rng]; omega) | (rw [hX']; simp only [rng]; omega) | (rw [hX']; omega)))) | ((with_reducible fail_if_success first | constructor | show False); conv => whnf)
          · rename_i h6
            have h6 := of_decide_eq_true h6
            have hz : lsE (srv ⟨xl, 2, true⟩) 0 = slL 3 lnE (xl.set 2 ⟨(xl.getD 2 default).weight, 0, (xl.getD 2 default).costs.drop 1⟩) := by
              show slL 3 lnE (xl.set 2 ⟨_, if (xl.getD 2 default).costs.drop 1 = [] then (0 : Int) else _, _⟩) = _
              rw [if_pos (List.length_eq_zero_iff.1 (by omega))]; rfl
            refine Out.mk (hQ _ _ ?_)
            rw [hs]
            repeat' first | (with_reducible first | refine nI1 ?_ | refine nI2 ?_ | refine nI3 ?_ | exact ⟨⟩ | refine Both.mk (fun _ => ?_) fun _ => ?_ | refine Both2.mk (fun _ => ?_) ?_ | (refine Need.mk ?_ ?_; (first | omega | exact CEq.refl _ | (dsimp only; omega) | (simp only [addN_eq]; omega) | exact ⟨rfl, rfl⟩ | (simp only [rng]; omega) | (rw [hX']; simp only [rng]; omega) | (rw [hX']; omega)))) | ((with_reducible fail_if_success first | constructor | show False); conv => whnf)
            refine Need.mk (by rw [hz]; exact (((Upd.start.c hcc).d).d).isL.off.ceq (by rw [List.length_set]; exact hlen.symm)) ?_
            repeat' first | (with_reducible first | refine nI1 ?_ | refine nI2 ?_ | refine nI3 ?_ | exact ⟨⟩ | refine Both.mk (fun _ => ?_) fun _ => ?_ | refine Both2.mk (fun _ => ?_) ?_ | (refine Need.mk ?_ ?_; (first | omega | exact CEq.refl _ | (dsimp only; omega) | (simp only [addN_eq]; omega) | exact ⟨rfl, rfl⟩ | (simp only [rng]; omega) | (rw [hX']; simp only [rng]; omega) | (rw [hX']; omega)))) | ((with_reducible refine Need.mk ?_ ?_); exact CEq.refl _) | ((with_reducible fail_if_success first | constructor | show False); conv => whnf)
          · rename_i h6
            have h6 := of_decide_eq_false h6
            have hz : lsE (srv ⟨xl, 2, true⟩) 0 = slL 3 lnE (xl.set 2 ⟨(xl.getD 2 default).weight, gv ⟨xl, 2, true⟩ - (xl.getD 2 default).costs.getD 0 default, (xl.getD 2 default).costs.drop 1⟩) := by
              show slL 3 lnE (xl.set 2 ⟨_, if (xl.getD 2 default).costs.drop 1 = [] then (0 : Int) else _, _⟩) = _
              rw [if_neg (fun e => by rw [e] at hdl; exact h6 (by rw [← hdl]; rfl))]; rfl
            rw [hg0] at hz
            refine Out.mk (hQ _ _ ?_)
            rw [hs]
            repeat' first | (with_reducible first | refine nI1 ?_ | refine nI2 ?_ | refine nI3 ?_ | exact ⟨⟩ | refine Both.mk (fun _ => ?_) fun _ => ?_ | refine Both2.mk (fun _ => ?_) ?_ | (refine Need.mk ?_ ?_; (first | omega | exact CEq.refl _ | (dsimp only; omega) | (simp only [addN_eq]; omega) | exact ⟨rfl, rfl⟩ | (simp only [rng]; omega) | (rw [hX']; simp only [rng]; omega) | (rw [hX']; omega)))) | ((with_reducible fail_if_success first | constructor | show False); conv => whnf)
            refine Need.mk (by rw [hz]; exact ((Upd.start.c hcc).d).isL.off.ceq (by rw [List.length_set]; exact hlen.symm)) ?_
            repeat' first | (with_reducible first | refine nI1 ?_ | refine nI2 ?_ | refine nI3 ?_ | exact ⟨⟩ | refine Both.mk (fun _ => ?_) fun _ => ?_ | refine Both2.mk (fun _ => ?_) ?_ | (refine Need.mk ?_ ?_; (first | omega | exact CEq.refl _ | (dsimp only; omega) | (simp only [addN_eq]; omega) | exact ⟨rfl, rfl⟩ | (simp only [rng]; omega) | (rw [hX']; simp only [rng]; omega) | (rw [hX']; omega)))) | ((with_reducible refine Need.mk ?_ ?_); exact CEq.refl _) | ((with_reducible fail_if_success first | constructor | show False); conv => whnf)
    · obtain ⟨rfl, rfl⟩ := hcx 3 rfl
      clear hcx
      have hX' : xl.getD (addN 0 (Int.toNat 3)) default = xl.getD 3 default := rfl
      have hmx : (xl.getD 3 default).deficit ≤ 39 := Int.le_trans d2 hm
      dsimp only
      repeat' first | (with_reducible first | refine nI1 ?_ | refine nI2 ?_ | refine nI3 ?_ | exact ⟨⟩ | refine Both.mk (fun _ => ?_) fun _ => ?_ | refine Both2.mk (fun _ => ?_) ?_ | (refine Need.mk ?_ ?_; (first | omega | exact CEq.refl _ | (dsimp only; omega) | (simp only [addN_eq]; omega) | exact ⟨rfl, rfl⟩ | (simp only [rng]; omega) | (rw [hX']; simp only [rng]; omega) | (rw [hX']; omega)))) | ((with_reducible fail_if_success first | constructor | show False); conv => whnf)
      · rename_i h3
        have h3 : (xl.getD 3 default).costs = [] := List.length_eq_zero_iff.1 (by have := of_decide_eq_true h3; rw [hX'] at this; omega)
        obtain ⟨m, hm1, hm2, hm3, hm4, hm5⟩ := adv_h 0 (by decide) (.inl ⟨h3, rfl⟩)
        refine LoopEnd.mk ⟨m, hm1, hm2, ?_⟩
        rw [hm3, hm4, hm5]
        (refine Le.of ?_ ?_ <;> repeat' first | exact trivial | exact CEq.refl _ | exact rfl | exact cI (by push_cast; first | rfl | omega) | exact SubE.dat fun _ _ _ _ => CEq.refl _ | refine SubE.var2 ?_ ?_ | refine SubE.var1 ?_ | refine SubE.var3 ?_ ?_ ?_ | refine SubE.var4 ?_ ?_ ?_ ?_ | refine SubE.var5 ?_ ?_ ?_ ?_ ?_ | refine SubE.varN ?_ | refine Exists.intro _ (And.intro rfl ?_) | refine And.intro ?_ ?_)
        exact (IsL.def IsL.refl).sub (by rw [List.length_set]; exact hlen.symm)
      · rename_i h3 h4
        have hne : 0 < (xl.getD 3 default).costs.length := by have := of_decide_eq_false h3; rw [hX'] at this; omega
        have hne' : (xl.getD 3 default).costs ≠ [] := fun e => by rw [e] at hne; simp at hne
        have hg0 := hgf (by simpa using h4)
        repeat' first | (with_reducible first | refine nI1 ?_ | refine nI2 ?_ | refine nI3 ?_ | exact ⟨⟩ | refine Both.mk (fun _ => ?_) fun _ => ?_ | refine Both2.mk (fun _ => ?_) ?_ | (refine Need.mk ?_ ?_; (first | omega | exact CEq.refl _ | (dsimp only; omega) | (simp only [addN_eq]; omega) | exact ⟨rfl, rfl⟩ | (simp only [rng]; omega) | (rw [hX']; simp only [rng]; omega) | (rw [hX']; omega)))) | ((with_reducible fail_if_success first | constructor | show False); conv => whnf)
        · rename_i h5
          have h5 := of_decide_eq_true h5
          obtain ⟨m, hm1, hm2, hm3, hm4, hm5⟩ := adv_h ((xl.getD 3 default).deficit + (xl.getD 3 default).weight * 4) (by omega) (.inr ⟨hne', by rw [hg0, hhd]; exact h5, hg0.symm⟩)
          refine LoopEnd.mk ⟨m, hm1, hm2, ?_⟩
          rw [hm3, hm4, hm5]
          (refine Le.of ?_ ?_ <;> repeat' first | exact trivial | exact CEq.refl _ | exact rfl | exact cI (by push_cast; first | rfl | omega) | exact SubE.dat fun _ _ _ _ => CEq.refl _ | refine SubE.var2 ?_ ?_ | refine SubE.var1 ?_ | refine SubE.var3 ?_ ?_ ?_ | refine SubE.var4 ?_ ?_ ?_ ?_ | refine SubE.var5 ?_ ?_ ?_ ?_ ?_ | refine SubE.varN ?_ | refine Exists.intro _ (And.intro rfl ?_) | refine And.intro ?_ ?_)
          exact (IsL.def IsL.refl).sub (by rw [List.length_set]; exact hlen.symm)
        · rename_i h5
          have h5 := of_decide_eq_false h5
          have hs := srv_h hne' (by rw [hg0, hhd]; exact h5)
          refine CallVC.mk' (fun _ => sl_Clone_int_ok K.m K.cloneI ((xl.getD 3 default).costs.length - 1) (fun i j => intE (((xl.getD 3 default).costs.drop 1).getD i default) j) (by omega)) (fun _ => .cons (.one (CEq.slice fun i hi j hj => ?_)) .nil) ?_
          · rw [List.getD_eq_getElem?_getD (l := (xl.getD 3 default).costs.drop 1), List.getElem?_drop, ← List.getD_eq_getElem?_getD]
            exact CEq.refl _
          have hc1 : 1 ≤ (xl.getD 3 default).costs.getD (Int.toNat 0) default ∧ (xl.getD 3 default).costs.getD (Int.toNat 0) default ≤ 8 := cc _ (getD_mem hne)
          have hdl : ((xl.getD 3 default).costs.drop 1).length = (xl.getD 3 default).costs.length - 1 := List.length_drop ..
          have hcc : CEq (Cell.sl 1 ((xl.getD 3 default).costs.length - 1) fun i j => (fun i j => intE (((xl.getD 3 default).costs.drop 1).getD i default) j) (addN 0 i) j) (slL 1 intE ((xl.getD 3 default).costs.drop 1)) := IsL.refl.off.ceq hdl.symm
          repeat' first | (with_reducible first | refine nI1 ?_ | refine nI2 ?_ | refine nI3 ?_ | exact ⟨⟩ | refine Both.mk (fun _ => ?_) fun _ => ?_ | refine Both2.mk (fun _ => ?_) ?_ | (refine Need.mk ?_ ?_; (first | omega | exact CEq.refl _ | (dsimp only; omega) | (simp only [addN_eq]; omega) | exact ⟨rfl, rfl⟩ | (simp only [rng]; omega) | (rw [hX']; simp only [rng]; omega) | (rw [hX']; omega)))) | ((with_reducible fail_if_success first | constructor | show False); conv => whnf)
          · rename_i h6
            have h6 := of_decide_eq_true h6
            have hz : lsE (srv ⟨xl, 3, xg⟩) 0 = slL 3 lnE (xl.set 3 ⟨(xl.getD 3 default).weight, 0, (xl.getD 3 default).costs.drop 1⟩) := by
              show slL 3 lnE (xl.set 3 ⟨_, if (xl.getD 3 default).costs.drop 1 = [] then (0 : Int) else _, _⟩) = _
              rw [if_pos (List.length_eq_zero_iff.1 (by omega))]; rfl
            refine Out.mk (hQ _ _ ?_)
            rw [hs]
            repeat' first | (with_reducible first | refine nI1 ?_ | refine nI2 ?_ | refine nI3 ?_ | exact ⟨⟩ | refine Both.mk (fun _ => ?_) fun _ => ?_ | refine Both2.mk (fun _ => ?_) ?_ | (refine Need.mk ?_ ?_; (first | omega | exact CEq.refl _ | (dsimp only; omega) | (simp only [addN_eq]; omega) | exact ⟨rfl, rfl⟩ | (simp only [rng]; omega) | (rw [hX']; simp only [rng]; omega) | (rw [hX']; omega)))) | ((with_reducible fail_if_success first | constructor | show False); conv => whnf)
            refine Need.mk (by rw [hz]; exact ((((Upd.start.d).c hcc).d).d).isL.off.ceq (by rw [List.length_set]; exact hlen.symm)) ?_
            repeat' first | (with_reducible first | refine nI1 ?_ | refine nI2 ?_ | refine nI3 ?_ | exact ⟨⟩ | refine Both.mk (fun _ => ?_) fun _ => ?_ | refine Both2.mk (fun _ => ?_) ?_ | (refine Need.mk ?_ ?_; (first | omega | exact CEq.refl _ | (dsimp only; omega) | (simp only [addN_eq]; omega) | exact ⟨rfl, rfl⟩ | (simp only [rng]; omega) | (rw [hX']; simp only [rng]; omega) | (rw [hX']; omega)))) | ((with_reducible refine Need.mk ?_ ?_); exact CEq.refl _) | ((with_reducible fail_if_success first | constructor | show False); conv => whnf)
          · rename_i h6
            have h6 := of_decide_eq_false h6
            have hz : lsE (srv ⟨xl, 3, xg⟩) 0 = slL 3 lnE (xl.set 3 ⟨(xl.getD 3 default).weight, gv ⟨xl, 3, xg⟩ - (xl.getD 3 default).costs.getD 0 default, (xl.getD 3 default).costs.drop 1⟩) := by
              show slL 3 lnE (xl.set 3 ⟨_, if (xl.getD 3 default).costs.drop 1 = [] then (0 : Int) else _, _⟩) = _
              rw [if_neg (fun e => by rw [e] at hdl; exact h6 (by rw [← hdl]; rfl))]; rfl
            rw [hg0] at hz
            refine Out.mk (hQ _ _ ?_)
            rw [hs]
            repeat' first | (with_reducible first | refine nI1 ?_ | refine nI2 ?_ | refine nI3 ?_ | exact ⟨⟩ | refine Both.mk (fun _ => ?_) fun _ => ?_ | refine Both2.mk (fun _ => ?_) ?_ | (refine Need.mk ?_ ?_; (first | omega | exact CEq.refl _ | (dsimp only; omega) | (simp only [addN_eq]; omega) | exact ⟨rfl, rfl⟩ | (simp only [rng]; omega) | (rw [hX']; simp only [rng]; omega) | (rw [hX']; omega)))) | ((with_reducible fail_if_success first | constructor | show False); conv => whnf)
            refine Need.mk (by rw [hz]; exact (((Upd.start.d).c hcc).d).isL.off.ceq (by rw [List.length_set]; exact hlen.symm)) ?_
            repeat' first | (with_reducible first | refine nI1 ?_ | refine nI2 ?_ | refine nI3 ?_ | exact ⟨⟩ | refine Both.mk (fun _ => ?_) fun _ => ?_ | refine Both2.mk (fun _ => ?_) ?_ | (refine Need.mk ?_ ?_; (first | omega | exact CEq.refl _ | (dsimp only; omega) | (simp only [addN_eq]; omega) | exact ⟨rfl, rfl⟩ | (simp only [rng]; omega) | (rw [hX']; simp only [rng]; omega) | (rw [hX']; omega)))) | ((with_reducible refine Need.mk ?_ ?_); exact CEq.refl _) | ((with_reducible fail_if_success first | constructor | show False); conv => whnf)
      · rename_i h3 h4
        have hne : 0 < (xl.getD 3 default).costs.length := by have := of_decide_eq_false h3; rw [hX'] at this; omega
        have hne' : (xl.getD 3 default).costs ≠ [] := fun e => by rw [e] at hne; simp at hne
        obtain rfl : xg = true := by simpa using h4
        have hg0 := hgt rfl
        repeat' first | (with_reducible first | refine nI1 ?_ | refine nI2 ?_ | refine nI3 ?_ | exact ⟨⟩ | refine Both.mk (fun _ => ?_) fun _ => ?_ | refine Both2.mk (fun _ => ?_) ?_ | (refine Need.mk ?_ ?_; (first | omega | exact CEq.refl _ | (dsimp only; omega) | (simp only [addN_eq]; omega) | exact ⟨rfl, rfl⟩ | (simp only [rng]; omega) | (rw [hX']; simp only [rng]; omega) | (rw [hX']; omega)))) | ((with_reducible fail_if_success first | constructor | show False); conv => whnf)
        · rename_i h5
          have h5 := of_decide_eq_true h5
          obtain ⟨m, hm1, hm2, hm3, hm4, hm5⟩ := adv_h (xl.getD 3 default).deficit (by omega) (.inr ⟨hne', by rw [hg0, hhd]; exact h5, hg0.symm⟩)
          refine LoopEnd.mk ⟨m, hm1, hm2, ?_⟩
          rw [hm3, hm4, hm5]
          rw [setSelf]
          (refine Le.of ?_ ?_ <;> repeat' first | exact trivial | exact CEq.refl _ | exact rfl | exact cI (by push_cast; first | rfl | omega) | exact SubE.dat fun _ _ _ _ => CEq.refl _ | refine SubE.var2 ?_ ?_ | refine SubE.var1 ?_ | refine SubE.var3 ?_ ?_ ?_ | refine SubE.var4 ?_ ?_ ?_ ?_ | refine SubE.var5 ?_ ?_ ?_ ?_ ?_ | refine SubE.varN ?_ | refine Exists.intro _ (And.intro rfl ?_) | refine And.intro ?_ ?_)
        · rename_i h5
          have h5 := of_decide_eq_false h5
          have hs := srv_h hne' (by rw [hg0, hhd]; exact h5)
          refine CallVC.mk' (fun _ => sl_Clone_int_ok K.m K.cloneI ((xl.getD 3 default).costs.length - 1) (fun i j => intE (((xl.getD 3 default).costs.drop 1).getD i default) j) (by omega)) (fun _ => .cons (.one (CEq.slice fun i hi j hj => ?_)) .nil) ?_
          · rw [List.getD_eq_getElem?_getD (l := (xl.getD 3 default).costs.drop 1), List.getElem?_drop, ← List.getD_eq_getElem?_getD]
            exact CEq.refl _
          have hc1 : 1 ≤ (xl.getD 3 default).costs.getD (Int.toNat 0) default ∧ (xl.getD 3 default).costs.getD (Int.toNat 0) default ≤ 8 := cc _ (getD_mem hne)
          have hdl : ((xl.getD 3 default).costs.drop 1).length = (xl.getD 3 default).costs.length - 1 := List.length_drop ..
          have hcc : CEq (Cell.sl 1 ((xl.getD 3 default).costs.length - 1) fun i j => (fun i j => intE (((xl.getD 3 default).costs.drop 1).getD i default) j) (addN 0 i) j) (slL 1 intE ((xl.getD 3 default).costs.drop 1)) := IsL.refl.off.ceq hdl.symm
          repeat' first | (with_reducible first | refine nI1 ?_ | refine nI2 ?_ | refine nI3 ?_ | exact ⟨⟩ | refine Both.mk (fun _ => ?_) fun _ => ?_ | refine Both2.mk (fun _ => ?_) ?_ | (refine Need.mk ?_ ?_; (first | omega | exact CEq.refl _ | (dsimp only; omega) | (simp only [addN_eq]; omega) | exact ⟨rfl, rfl⟩ | (simp only [rng]; omega) | (rw [hX']; simp only [rng]; omega) | (rw [hX']; omega)))) | ((with_reducible fail_if_success first | constructor | show False); conv => whnf)
          · rename_i h6
            have h6 := of_decide_eq_true h6
            have hz : lsE (srv ⟨xl, 3, true⟩) 0 = slL 3 lnE (xl.set 3 ⟨(xl.getD 3 default).weight, 0, (xl.getD 3 default).costs.drop 1⟩) := by
              show slL 3 lnE (xl.set 3 ⟨_, if (xl.getD 3 default).costs.drop 1 = [] then (0 : Int) else _, _⟩) = _
              rw [if_pos (List.length_eq_zero_iff.1 (by omega))]; rfl
            refine Out.mk (hQ _ _ ?_)
            rw [hs]
            repeat' first | (with_reducible first | refine nI1 ?_ | refine nI2 ?_ | refine nI3 ?_ | exact ⟨⟩ | refine Both.mk (fun _ => ?_) fun _ => ?_ | refine Both2.mk (fun _ => ?_) ?_ | (refine Need.mk ?_ ?_; (first | omega | exact CEq.refl _ | (dsimp only; omega) | (simp only [addN_eq]; omega) | exact ⟨rfl, rfl⟩ | (simp only [rng]; omega) | (rw [hX']; simp only [rng]; omega) | (rw [hX']; omega)))) | ((with_reducible fail_if_success first | constructor | show False); conv => whnf)
            refine Need.mk (by rw [hz]; exact (((Upd.start.c hcc).d).d).isL.off.ceq (by rw [List.length_set]; exact hlen.symm)) ?_
            repeat' first | (with_reducible first | refine nI1 ?_ | refine nI2 ?_ | refine nI3 ?_ | exact ⟨⟩ | refine Both.mk (fun _ => ?_) fun _ => ?_ | refine Both2.mk (fun _ => ?_) ?_ | (refine Need.mk ?_ ?_; (first | omega | exact CEq.refl _ | (dsimp only; omega) | (simp only [addN_eq]; omega) | exact ⟨rfl, rfl⟩ | (simp only [rng]; omega) | (rw [hX']; simp only [rng]; omega) | (rw [hX']; omega)))) | ((with_reducible refine Need.mk ?_ ?_); exact CEq.refl _) | ((with_reducible fail_if_success first | constructor | show False); conv => whnf)
          · rename_i h6
            have h6 := of_decide_eq_false h6
            have hz : lsE (srv ⟨xl, 3, true⟩) 0 = slL 3 lnE (xl.set 3 ⟨(xl.getD 3 default).weight, gv ⟨xl, 3, true⟩ - (xl.getD 3 default).costs.getD 0 default, (xl.getD 3 default).costs.drop 1⟩) := by
              show slL 3 lnE (xl.set 3 ⟨_, if (xl.getD 3 default).costs.drop 1 = [] then (0 : Int) else _, _⟩) = _
              rw [if_neg (fun e => by rw [e] at hdl; exact h6 (by rw [← hdl]; rfl))]; rfl
            rw [hg0] at hz
            refine Out.mk (hQ _ _ ?_)
            rw [hs]
            repeat' first | (with_reducible first | refine nI1 ?_ | refine nI2 ?_ | refine nI3 ?_ | exact ⟨⟩ | refine Both.mk (fun _ => ?_) fun _ => ?_ | refine Both2.mk (fun _ => ?_) ?_ | (refine Need.mk ?_ ?_; (first | omega | exact CEq.refl _ | (dsimp only; omega) | (simp only [addN_eq]; omega) | exact ⟨rfl, rfl⟩ | (simp only [rng]; omega) | (rw [hX']; simp only [rng]; omega) | (rw [hX']; omega)))) | ((with_reducible fail_if_success first | constructor | show False); conv => whnf)
            refine Need.mk (by rw [hz]; exact ((Upd.start.c hcc).d).isL.off.ceq (by rw [List.length_set]; exact hlen.symm)) ?_
            repeat' first | (with_reducible first | refine nI1 ?_ | refine nI2 ?_ | refine nI3 ?_ | exact ⟨⟩ | refine Both.mk (fun _ => ?_) fun _ => ?_ | refine Both2.mk (fun _ => ?_) ?_ | (refine Need.mk ?_ ?_; (first | omega | exact CEq.refl _ | (dsimp only; omega) | (simp only [addN_eq]; omega) | exact ⟨rfl, rfl⟩ | (simp only [rng]; omega) | (rw [hX']; simp only [rng]; omega) | (rw [hX']; omega)))) | ((with_reducible refine Need.mk ?_ ?_); exact CEq.refl _) | ((with_reducible fail_if_success first | constructor | show False); conv => whnf)
    · obtain ⟨rfl, rfl⟩ := hcx 4 rfl
      clear hcx
      have hX' : xl.getD (addN 0 (Int.toNat 4)) default = xl.getD 4 default := rfl
      have hmx : (xl.getD 4 default).deficit ≤ 39 := Int.le_trans d2 hm
      dsimp only
      repeat' first | (with_reducible first | refine nI1 ?_ | refine nI2 ?_ | refine nI3 ?_ | exact ⟨⟩ | refine Both.mk (fun _ => ?_) fun _ => ?_ | refine Both2.mk (fun _ => ?_) ?_ | (refine Need.mk ?_ ?_; (first | omega | exact CEq.refl _ | (dsimp only; omega) | (simp only [addN_eq]; omega) | exact ⟨rfl, rfl⟩ | (simp only [rng]; omega) | (rw [hX']; simp only [rng]; omega) | (rw [hX']; omega)))) | ((with_reducible fail_if_success first | constructor | show False); conv => whnf)
      · rename_i h3
        have h3 : (xl.getD 4 default).costs = [] := List.length_eq_zero_iff.1 (by have := of_decide_eq_true h3; rw [hX'] at this; omega)
        obtain ⟨m, hm1, hm2, hm3, hm4, hm5⟩ := adv_h 0 (by decide) (.inl ⟨h3, rfl⟩)
        refine LoopEnd.mk ⟨m, hm1, hm2, ?_⟩
        rw [hm3, hm4, hm5]
        (refine Le.of ?_ ?_ <;> repeat' first | exact trivial | exact CEq.refl _ | exact rfl | exact cI (by push_cast; first | rfl | omega) | exact SubE.dat fun _ _ _ _ => CEq.refl _ | refine SubE.var2 ?_ ?_ | refine SubE.var1 ?_ | refine SubE.var3 ?_ ?_ ?_ | refine SubE.var4 ?_ ?_ ?_ ?_ | refine SubE.var5 ?_ ?_ ?_ ?_ ?_ | refine SubE.varN ?_ | refine Exists.intro _ (And.intro rfl ?_) | refine And.intro ?_ ?_)
        exact (IsL.def IsL.refl).sub (by rw [List.length_set]; exact hlen.symm)
      · rename_i h3 h4
        have hne : 0 < (xl.getD 4 default).costs.length := by have := of_decide_eq_false h3; rw [hX'] at this; omega
        have hne' : (xl.getD 4 default).costs ≠ [] := fun e => by rw [e] at hne; simp at hne
        have hg0 := hgf (by simpa using h4)
        repeat' first | (with_reducible first | refine nI1 ?_ | refine nI2 ?_ | refine nI3 ?_ | exact ⟨⟩ | refine Both.mk (fun _ => ?_) fun _ => ?_ | refine Both2.mk (fun _ => ?_) ?_ | (refine Need.mk ?_ ?_; (first | omega | exact CEq.refl _ | (dsimp only; omega) | (simp only [addN_eq]; omega) | exact ⟨rfl, rfl⟩ | (simp only [rng]; omega) | (rw [hX']; simp only [rng]; omega) | (rw [hX']; omega)))) | ((with_reducible fail_if_success first | constructor | show False); conv => whnf)
        · rename_i h5
          have h5 := of_decide_eq_true h5
          obtain ⟨m, hm1, hm2, hm3, hm4, hm5⟩ := adv_h ((xl.getD 4 default).deficit + (xl.getD 4 default).weight * 4) (by omega) (.inr ⟨hne', by rw [hg0, hhd]; exact h5, hg0.symm⟩)
          refine LoopEnd.mk ⟨m, hm1, hm2, ?_⟩
          rw [hm3, hm4, hm5]
          (refine Le.of ?_ ?_ <;> repeat' first | exact trivial | exact CEq.refl _ | exact rfl | exact cI (by push_cast; first | rfl | omega) | exact SubE.dat fun _ _ _ _ => CEq.refl _ | refine SubE.var2 ?_ ?_ | refine SubE.var1 ?_ | refine SubE.var3 ?_ ?_ ?_ | refine SubE.var4 ?_ ?_ ?_ ?_ | refine SubE.var5 ?_ ?_ ?_ ?_ ?_ | refine SubE.varN ?_ | refine Exists.intro _ (And.intro rfl ?_) | refine And.intro ?_ ?_)
          exact (IsL.def IsL.refl).sub (by rw [List.length_set]; exact hlen.symm)
        · rename_i h5
          have h5 := of_decide_eq_false h5
          have hs := srv_h hne' (by rw [hg0, hhd]; exact h5)
          refine CallVC.mk' (fun _ => sl_Clone_int_ok K.m K.cloneI ((xl.getD 4 default).costs.length - 1) (fun i j => intE (((xl.getD 4 default).costs.drop 1).getD i default) j) (by omega)) (fun _ => .cons (.one (CEq.slice fun i hi j hj => ?_)) .nil) ?_
          · rw [List.getD_eq_getElem?_getD (l := (xl.getD 4 default).costs.drop 1), List.getElem?_drop, ← List.getD_eq_getElem?_getD]
            exact CEq.refl _
          have hc1 : 1 ≤ (xl.getD 4 default).costs.getD (Int.toNat 0) default ∧ (xl.getD 4 default).costs.getD (Int.toNat 0) default ≤ 8 := cc _ (getD_mem hne)
          have hdl : ((xl.getD 4 default).costs.drop 1).length = (xl.getD 4 default).costs.length - 1 := List.length_drop ..
          have hcc : CEq (Cell.sl 1 ((xl.getD 4 default).costs.length - 1) fun i j => (fun i j => intE (((xl.getD 4 default).costs.drop 1).getD i default) j) (addN 0 i) j) (slL 1 intE ((xl.getD 4 default).costs.drop 1)) := IsL.refl.off.ceq hdl.symm
          repeat' first | (with_reducible first | refine nI1 ?_ | refine nI2 ?_ | refine nI3 ?_ | exact ⟨⟩ | refine Both.mk (fun _ => ?_) fun _ => ?_ | refine Both2.mk (fun _ => ?_) ?_ | (refine Need.mk ?_ ?_; (first | omega | exact CEq.refl _ | (dsimp only; omega) | (simp only [addN_eq]; omega) | exact ⟨rfl, rfl⟩ | (simp only [rng]; omega) | (rw [hX']; simp only [rng]; omega) | (rw [hX']; omega)))) | ((with_reducible fail_if_success first | constructor | show False); conv => whnf)
          · rename_i h6
            have h6 := of_decide_eq_true h6
            have hz : lsE (srv ⟨xl, 4, xg⟩) 0 = slL 3 lnE (xl.set 4 ⟨(xl.getD 4 default).weight, 0, (xl.getD 4 default).costs.drop 1⟩) := by
              show slL 3 lnE (xl.set 4 ⟨_, if (xl.getD 4 default).costs.drop 1 = [] then (0 : Int) else _, _⟩) = _
              rw [if_pos (List.length_eq_zero_iff.1 (by omega))]; rfl
            refine Out.mk (hQ _ _ ?_)
            rw [hs]
            repeat' first | (with_reducible first | refine nI1 ?_ | refine nI2 ?_ | refine nI3 ?_ | exact ⟨⟩ | refine Both.mk (fun _ => ?_) fun _ => ?_ | refine Both2.mk (fun _ => ?_) ?_ | (refine Need.mk ?_ ?_; (first | omega | exact CEq.refl _ | (dsimp only; omega) | (simp only [addN_eq]; omega) | exact ⟨rfl, rfl⟩ | (simp only [rng]; omega) | (rw [hX']; simp only [rng]; omega) | (rw [hX']; omega)))) | ((with_reducible fail_if_success first | constructor | show False); conv => whnf)
            refine Need.mk (by rw [hz]; exact ((((Upd.start.d).c hcc).d).d).isL.off.ceq (by rw [List.length_set]; exact hlen.symm)) ?_
            repeat' first | (with_reducible first | refine nI1 ?_ | refine nI2 ?_ | refine nI3 ?_ | exact ⟨⟩ | refine Both.mk (fun _ => ?_) fun _ => ?_ | refine Both2.mk (fun _ => ?_) ?_ | (refine Need.mk ?_ ?_; (first | omega | exact CEq.refl _ | (dsimp only; omega) | (simp only [addN_eq]; omega) | exact ⟨rfl, rfl⟩ | (simp only [rng]; omega) | (rw [hX']; simp only [rng]; omega) | (rw [hX']; omega)))) | ((with_reducible refine Need.mk ?_ ?_); exact CEq.refl _) | ((with_reducible fail_if_success first | constructor | show False); conv => whnf)
          · rename_i h6
            have h6 := of_decide_eq_false h6
            have hz : lsE (srv ⟨xl, 4, xg⟩) 0 = slL 3 lnE (xl.set 4 ⟨(xl.getD 4 default).weight, gv ⟨xl, 4, xg⟩ - (xl.getD 4 default).costs.getD 0 default, (xl.getD 4 default).costs.drop 1⟩) := by
              show slL 3 lnE (xl.set 4 ⟨_, if (xl.getD 4 default).costs.drop 1 = [] then (0 : Int) else _, _⟩) = _
              rw [if_neg (fun e => by rw [e] at hdl; exact h6 (by rw [← hdl]; rfl))]; rfl
            rw [hg0] at hz
            refine Out.mk (hQ _ _ ?_)
            rw [hs]
            repeat' first | (with_reducible first | refine nI1 ?_ | refine nI2 ?_ | refine nI3 ?_ | exact ⟨⟩ | refine Both.mk (fun _ => ?_) fun _ => ?_ | refine Both2.mk (fun _ => ?_) ?_ | (refine Need.mk ?_ ?_; (first | omega | exact CEq.refl _ | (dsimp only; omega) | (simp only [addN_eq]; omega) | exact ⟨rfl, rfl⟩ | (simp only [rng]; omega) | (rw [hX']; simp only [rng]; omega) | (rw [hX']; omega)))) | ((with_reducible fail_if_success first | constructor | show False); conv => whnf)
            refine Need.mk (by rw [hz]; exact (((Upd.start.d).c hcc).d).isL.off.ceq (by rw [List.length_set]; exact hlen.symm)) ?_
            repeat' first | (with_reducible first | refine nI1 ?_ | refine nI2 ?_ | refine nI3 ?_ | exact ⟨⟩ | refine Both.mk (fun _ => ?_) fun _ => ?_ | refine Both2.mk (fun _ => ?_) ?_ | (refine Need.mk ?_ ?_; (first | omega | exact CEq.refl _ | (dsimp only; omega) | (simp only [addN_eq]; omega) | exact ⟨rfl, rfl⟩ | (simp only [rng]; omega) | (rw [hX']; simp only [rng]; omega) | (rw [hX']; omega)))) | ((with_reducible refine Need.mk ?_ ?_); exact CEq.refl _) | ((with_reducible fail_if_success first | constructor | show False); conv => whnf)
      · rename_i h3 h4
        have hne : 0 < (xl.getD 4 default).costs.length := by have := of_decide_eq_false h3; rw [hX'] at this; omega
        have hne' : (xl.getD 4 default).costs ≠ [] := fun e => by rw [e] at hne; simp at hne
        obtain rfl : xg = true := by simpa using h4
        have hg0 := hgt rfl
        repeat' first | (with_reducible first | refine nI1 ?_ | refine nI2 ?_ | refine nI3 ?_ | exact ⟨⟩ | refine Both.mk (fun _ => ?_) fun _ => ?_ | refine Both2.mk (fun _ => ?_) ?_ | (refine Need.mk ?_ ?_; (first | omega | exact CEq.refl _ | (dsimp only; omega) | (simp only [addN_eq]; omega) | exact ⟨rfl, rfl⟩ | (simp only [rng]; omega) | (rw [hX']; simp only [rng]; omega) | (rw [hX']; omega)))) | ((with_reducible fail_if_success first | constructor | show False); conv => whnf)
        · rename_i h5
          have h5 := of_decide_eq_true h5
          obtain ⟨m, hm1, hm2, hm3, hm4, hm5⟩ := adv_h (xl.getD 4 default).deficit (by omega) (.inr ⟨hne', by rw [hg0, hhd]; exact h5, hg0.symm⟩)
          refine LoopEnd.mk ⟨m, hm1, hm2, ?_⟩
          rw [hm3, hm4, hm5]
          rw [setSelf]
          (refine Le.of ?_ ?_ <;> repeat' first | exact trivial | exact CEq.refl _ | exact rfl | exact cI (by push_cast; first | rfl | omega) | exact SubE.dat fun _ _ _ _ => CEq.refl _ | refine SubE.var2 ?_ ?_ | refine SubE.var1 ?_ | refine SubE.var3 ?_ ?_ ?_ | refine SubE.var4 ?_ ?_ ?_ ?_ | refine SubE.var5 ?_ ?_ ?_ ?_ ?_ | refine SubE.varN ?_ | refine Exists.intro _ (And.intro rfl ?_) | refine And.intro ?_ ?_)
        · rename_i h5
          have h5 := of_decide_eq_false h5
          have hs := srv_h hne' (by rw [hg0, hhd]; exact h5)
          refine CallVC.mk' (fun _ => sl_Clone_int_ok K.m K.cloneI ((xl.getD 4 default).costs.length - 1) (fun i j => intE (((xl.getD 4 default).costs.drop 1).getD i default) j) (by omega)) (fun _ => .cons (.one (CEq.slice fun i hi j hj => ?_)) .nil) ?_
          · rw [List.getD_eq_getElem?_getD (l := (xl.getD 4 default).costs.drop 1), List.getElem?_drop, ← List.getD_eq_getElem?_getD]
            exact CEq.refl _
          have hc1 : 1 ≤ (xl.getD 4 default).costs.getD (Int.toNat 0) default ∧ (xl.getD 4 default).costs.getD (Int.toNat 0) default ≤ 8 := cc _ (getD_mem hne)
          have hdl : ((xl.getD 4 default).costs.drop 1).length = (xl.getD 4 default).costs.length - 1 := List.length_drop ..
          have hcc : CEq (Cell.sl 1 ((xl.getD 4 default).costs.length - 1) fun i j => (fun i j => intE (((xl.getD 4 default).costs.drop 1).getD i default) j) (addN 0 i) j) (slL 1 intE ((xl.getD 4 default).costs.drop 1)) := IsL.refl.off.ceq hdl.symm
          repeat' first | (with_reducible first | refine nI1 ?_ | refine nI2 ?_ | refine nI3 ?_ | exact ⟨⟩ | refine Both.mk (fun _ => ?_) fun _ => ?_ | refine Both2.mk (fun _ => ?_) ?_ | (refine Need.mk ?_ ?_; (first | omega | exact CEq.refl _ | (dsimp only; omega) | (simp only [addN_eq]; omega) | exact ⟨rfl, rfl⟩ | (simp only [rng]; omega) | (rw [hX']; simp only [rng]; omega) | (rw [hX']; omega)))) | ((with_reducible fail_if_success first | constructor | show False); conv => whnf)
          · rename_i h6
            have h6 := of_decide_eq_true h6
            have hz : lsE (srv ⟨xl, 4, true⟩) 0 = slL 3 lnE (xl.set 4 ⟨(xl.getD 4 default).weight, 0, (xl.getD 4 default).costs.drop 1⟩) := by
              show slL 3 lnE (xl.set 4 ⟨_, if (xl.getD 4 default).costs.drop 1 = [] then (0 : Int) else _, _⟩) = _
              rw [if_pos (List.length_eq_zero_iff.1 (by omega))]; rfl
            refine Out.mk (hQ _ _ ?_)
            rw [hs]
            repeat' first | (with_reducible first | refine nI1 ?_ | refine nI2 ?_ | refine nI3 ?_ | exact ⟨⟩ | refine Both.mk (fun _ => ?_) fun _ => ?_ | refine Both2.mk (fun _ => ?_) ?_ | (refine Need.mk ?_ ?_; (first | omega | exact CEq.refl _ | (dsimp only; omega) | (simp only [addN_eq]; omega) | exact ⟨rfl, rfl⟩ | (simp only [rng]; omega) | (rw [hX']; simp only [rng]; omega) | (rw [hX']; omega)))) | ((with_reducible fail_if_success first | constructor | show False); conv => whnf)
            refine Need.mk (by rw [hz]; exact (((Upd.start.c hcc).d).d).isL.off.ceq (by rw [List.length_set]; exact hlen.symm)) ?_
            repeat' first | (with_reducible first | refine nI1 ?_ | refine nI2 ?_ | refine nI3 ?_ | exact ⟨⟩ | refine Both.mk (fun _ => ?_) fun _ => ?_ | refine Both2.mk (fun _ => ?_) ?_ | (refine Need.mk ?_ ?_; (first | omega | exact CEq.refl _ | (dsimp only; omega) | (simp only [addN_eq]; omega) | exact ⟨rfl, rfl⟩ | (simp only [rng]; omega) | (rw [hX']; simp only [rng]; omega) | (rw [hX']; omega)))) | ((with_reducible refine Need.mk ?_ ?_); exact CEq.refl _) | ((with_reducible fail_if_success first | constructor | show False); conv => whnf)
          · rename_i h6
            have h6 := of_decide_eq_false h6
            have hz : lsE (srv ⟨xl, 4, true⟩) 0 = slL 3 lnE (xl.set 4 ⟨(xl.getD 4 default).weight, gv ⟨xl, 4, true⟩ - (xl.getD 4 default).costs.getD 0 default, (xl.getD 4 default).costs.drop 1⟩) := by
              show slL 3 lnE (xl.set 4 ⟨_, if (xl.getD 4 default).costs.drop 1 = [] then (0 : Int) else _, _⟩) = _
              rw [if_neg (fun e => by rw [e] at hdl; exact h6 (by rw [← hdl]; rfl))]; rfl
            rw [hg0] at hz
            refine Out.mk (hQ _ _ ?_)
            rw [hs]
            repeat' first | (with_reducible first | refine nI1 ?_ | refine nI2 ?_ | refine nI3 ?_ | exact ⟨⟩ | refine Both.mk (fun _ => ?_) fun _ => ?_ | refine Both2.mk (fun _ => ?_) ?_ | (refine Need.mk ?_ ?_; (first | omega | exact CEq.refl _ | (dsimp only; omega) | (simp only [addN_eq]; omega) | exact ⟨rfl, rfl⟩ | (simp only [rng]; omega) | (rw [hX']; simp only [rng]; omega) | (rw [hX']; omega)))) | ((with_reducible fail_if_success first | constructor | show False); conv => whnf)
            refine Need.mk (by rw [hz]; exact ((Upd.start.c hcc).d).isL.off.ceq (by rw [List.length_set]; exact hlen.symm)) ?_
            repeat' first | (with_reducible first | refine nI1 ?_ | refine nI2 ?_ | refine nI3 ?_ | exact ⟨⟩ | refine Both.mk (fun _ => ?_) fun _ => ?_ | refine Both2.mk (fun _ => ?_) ?_ | (refine Need.mk ?_ ?_; (first | omega | exact CEq.refl _ | (dsimp only; omega) | (simp only [addN_eq]; omega) | exact ⟨rfl, rfl⟩ | (simp only [rng]; omega) | (rw [hX']; simp only [rng]; omega) | (rw [hX']; omega)))) | ((with_reducible refine Need.mk ?_ ?_); exact CEq.refl _) | ((with_reducible fail_if_success first | constructor | show False); conv => whnf)
    · obtain ⟨rfl, rfl⟩ := hcx 5 rfl
      clear hcx
      have hX' : xl.getD (addN 0 (Int.toNat 5)) default = xl.getD 5 default := rfl
      have hmx : (xl.getD 5 default).deficit ≤ 39 := Int.le_trans d2 hm
      dsimp only
      repeat' first | (with_reducible first | refine nI1 ?_ | refine nI2 ?_ | refine nI3 ?_ | exact ⟨⟩ | refine Both.mk (fun _ => ?_) fun _ => ?_ | refine Both2.mk (fun _ => ?_) ?_ | (refine Need.mk ?_ ?_; (first | omega | exact CEq.refl _ | (dsimp only; omega) | (simp only [addN_eq]; omega) | exact ⟨rfl, rfl⟩ | (simp only [rng]; omega) | (rw [hX']; simp only [rng]; omega) | (rw [hX']; omega)))) | ((with_reducible fail_if_success first | constructor | show False); conv => whnf)
      · rename_i h3
        have h3 : (xl.getD 5 default).costs = [] := List.length_eq_zero_iff.1 (by have := of_decide_eq_true h3; rw [hX'] at this; omega)
        obtain ⟨m, hm1, hm2, hm3, hm4, hm5⟩ := adv_h 0 (by decide) (.inl ⟨h3, rfl⟩)
        refine LoopEnd.mk ⟨m, hm1, hm2, ?_⟩
        rw [hm3, hm4, hm5]
        (refine Le.of ?_ ?_ <;> repeat' first | exact trivial | exact CEq.refl _ | exact rfl | exact cI (by push_cast; first | rfl | omega) | exact SubE.dat fun _ _ _ _ => CEq.refl _ | refine SubE.var2 ?_ ?_ | refine SubE.var1 ?_ | refine SubE.var3 ?_ ?_ ?_ | refine SubE.var4 ?_ ?_ ?_ ?_ | refine SubE.var5 ?_ ?_ ?_ ?_ ?_ | refine SubE.varN ?_ | refine Exists.intro _ (And.intro rfl ?_) | refine And.intro ?_ ?_)
        exact (IsL.def IsL.refl).sub (by rw [List.length_set]; exact hlen.symm)
      · rename_i h3 h4
        have hne : 0 < (xl.getD 5 default).costs.length := by have := of_decide_eq_false h3; rw [hX'] at this; omega
        have hne' : (xl.getD 5 default).costs ≠ [] := fun e => by rw [e] at hne; simp at hne
        have hg0 := hgf (by simpa using h4)
        repeat' first | (with_reducible first | refine nI1 ?_ | refine nI2 ?_ | refine nI3 ?_ | exact ⟨⟩ | refine Both.mk (fun _ => ?_) fun _ => ?_ | refine Both2.mk (fun _ => ?_) ?_ | (refine Need.mk ?_ ?_; (first | omega | exact CEq.refl _ | (dsimp only; omega) | (simp only [addN_eq]; omega) | exact ⟨rfl, rfl⟩ | (simp only [rng]; omega) | (rw [hX']; simp only [rng]; omega) | (rw [hX']; omega)))) | ((with_reducible fail_if_success first | constructor | show False); conv => whnf)
        · rename_i h5
          have h5 := of_decide_eq_true h5
          obtain ⟨m, hm1, hm2, hm3, hm4, hm5⟩ := adv_h ((xl.getD 5 default).deficit + (xl.getD 5 default).weight * 4) (by omega) (.inr ⟨hne', by rw [hg0, hhd]; exact h5, hg0.symm⟩)
          refine LoopEnd.mk ⟨m, hm1, hm2, ?_⟩
          rw [hm3, hm4, hm5]
          (refine Le.of ?_ ?_ <;> repeat' first | exact trivial | exact CEq.refl _ | exact rfl | exact cI (by push_cast; first | rfl | omega) | exact SubE.dat fun _ _ _ _ => CEq.refl _ | refine SubE.var2 ?_ ?_ | refine SubE.var1 ?_ | refine SubE.var3 ?_ ?_ ?_ | refine SubE.var4 ?_ ?_ ?_ ?_ | refine SubE.var5 ?_ ?_ ?_ ?_ ?_ | refine SubE.varN ?_ | refine Exists.intro _ (And.intro rfl ?_) | refine And.intro ?_ ?_)
          exact (IsL.def IsL.refl).sub (by rw [List.length_set]; exact hlen.symm)
        · rename_i h5
          have h5 := of_decide_eq_false h5
          have hs := srv_h hne' (by rw [hg0, hhd]; exact h5)
          refine CallVC.mk' (fun _ => sl_Clone_int_ok K.m K.cloneI ((xl.getD 5 default).costs.length - 1) (fun i j => intE (((xl.getD 5 default).costs.drop 1).getD i default) j) (by omega)) (fun _ => .cons (.one (CEq.slice fun i hi j hj => ?_)) .nil) ?_
          · rw [List.getD_eq_getElem?_getD (l := (xl.getD 5 default).costs.drop 1), List.getElem?_drop, ← List.getD_eq_getElem?_getD]
            exact CEq.refl _
          have hc1 : 1 ≤ (xl.getD 5 default).costs.getD (Int.toNat 0) default ∧ (xl.getD 5 default).costs.getD (Int.toNat 0) default ≤ 8 := cc _ (getD_mem hne)
          have hdl : ((xl.getD 5 default).costs.drop 1).length = (xl.getD 5 default).costs.length - 1 := List.length_drop ..
          have hcc : CEq (Cell.sl 1 ((xl.getD 5 default).costs.length - 1) fun i j => (fun i j => intE (((xl.getD 5 default).costs.drop 1).getD i default) j) (addN 0 i) j) (slL 1 intE ((xl.getD 5 default).costs.drop 1)) := IsL.refl.off.ceq hdl.symm
          repeat' first | (with_reducible first | refine nI1 ?_ | refine nI2 ?_ | refine nI3 ?_ | exact ⟨⟩ | refine Both.mk (fun _ => ?_) fun _ => ?_ | refine Both2.mk (fun _ => ?_) ?_ | (refine Need.mk ?_ ?_; (first | omega | exact CEq.refl _ | (dsimp only; omega) | (simp only [addN_eq]; omega) | exact ⟨rfl, rfl⟩ | (simp only [rng]; omega) | (rw [hX']; simp only [rng]; omega) | (rw [hX']; omega)))) | ((with_reducible fail_if_success first | constructor | show False); conv => whnf)
          · rename_i h6
            have h6 := of_decide_eq_true h6
            have hz : lsE (srv ⟨xl, 5, xg⟩) 0 = slL 3 lnE (xl.set 5 ⟨(xl.getD 5 default).weight, 0, (xl.getD 5 default).costs.drop 1⟩) := by
              show slL 3 lnE (xl.set 5 ⟨_, if (xl.getD 5 default).costs.drop 1 = [] then (0 : Int) else _, _⟩) = _
              rw [if_pos (List.length_eq_zero_iff.1 (by omega))]; rfl
            refine Out.mk (hQ _ _ ?_)
            rw [hs]
            repeat' first | (with_reducible first | refine nI1 ?_ | refine nI2 ?_ | refine nI3 ?_ | exact ⟨⟩ | refine Both.mk (fun _ => ?_) fun _ => ?_ | refine Both2.mk (fun _ => ?_) ?_ | (refine Need.mk ?_ ?_; (first | omega | exact CEq.refl _ | (dsimp only; omega) | (simp only [addN_eq]; omega) | exact ⟨rfl, rfl⟩ | (simp only [rng]; omega) | (rw [hX']; simp only [rng]; omega) | (rw [hX']; omega)))) | ((with_reducible fail_if_success first | constructor | show False); conv => whnf)
            refine Need.mk (by rw [hz]; exact ((((Upd.start.d).c hcc).d).d).isL.off.ceq (by rw [List.length_set]; exact hlen.symm)) ?_
            repeat' first | (with_reducible first | refine nI1 ?_ | refine nI2 ?_ | refine nI3 ?_ | exact ⟨⟩ | refine Both.mk (fun _ => ?_) fun _ => ?_ | refine Both2.mk (fun _ => ?_) ?_ | (refine Need.mk ?_ ?_; (first | omega | exact CEq.refl _ | (dsimp only; omega) | (simp only [addN_eq]; omega) | exact ⟨rfl, rfl⟩ | (simp only [rng]; omega) | (rw [hX']; simp only [rng]; omega) | (rw [hX']; omega)))) | ((with_reducible refine Need.mk ?_ ?_); exact CEq.refl _) | ((with_reducible fail_if_success first | constructor | show False); conv => whnf)
          · rename_i h6
            have h6 := of_decide_eq_false h6
            have hz : lsE (srv ⟨xl, 5, xg⟩) 0 = slL 3 lnE (xl.set 5 ⟨(xl.getD 5 default).weight, gv ⟨xl, 5, xg⟩ - (xl.getD 5 default).costs.getD 0 default, (xl.getD 5 default).costs.drop 1⟩) := by
              show slL 3 lnE (xl.set 5 ⟨_, if (xl.getD 5 default).costs.drop 1 = [] then (0 : Int) else _, _⟩) = _
              rw [if_neg (fun e => by rw [e] at hdl; exact h6 (by rw [← hdl]; rfl))]; rfl
            rw [hg0] at hz
            refine Out.mk (hQ _ _ ?_)
            rw [hs]
            repeat' first | (with_reducible first | refine nI1 ?_ | refine nI2 ?_ | refine nI3 ?_ | exact ⟨⟩ | refine Both.mk (fun _ => ?_) fun _ => ?_ | refine Both2.mk (fun _ => ?_) ?_ | (refine Need.mk ?_ ?_; (first | omega | exact CEq.refl _ | (dsimp only; omega) | (simp only [addN_eq]; omega) | exact ⟨rfl, rfl⟩ | (simp only [rng]; omega) | (rw [hX']; simp only [rng]; omega) | (rw [hX']; omega)))) | ((with_reducible fail_if_success first | constructor | show False); conv => whnf)
            refine Need.mk (by rw [hz]; exact (((Upd.start.d).c hcc).d).isL.off.ceq (by rw [List.length_set]; exact hlen.symm)) ?_
            repeat' first | (with_reducible first | refine nI1 ?_ | refine nI2 ?_ | refine nI3 ?_ | exact ⟨⟩ | refine Both.mk (fun _ => ?_) fun _ => ?_ | refine Both2.mk (fun _ => ?_) ?_ | (refine Need.mk ?_ ?_; (first | omega | exact CEq.refl _ | (dsimp only; omega) | (simp only [addN_eq]; omega) | exact ⟨rfl, rfl⟩ | (simp only [rng]; omega) | (rw [hX']; simp only [rng]; omega) | (rw [hX']; omega)))) | ((with_reducible refine Need.mk ?_ ?_); exact CEq.refl _) | ((with_reducible fail_if_success first | constructor | show False); conv => whnf)
      · rename_i h3 h4
        have hne : 0 < (xl.getD 5 default).costs.length := by have := of_decide_eq_false h3; rw [hX'] at this; omega
        have hne' : (xl.getD 5 default).costs ≠ [] := fun e => by rw [e] at hne; simp at hne
        obtain rfl : xg = true := by simpa using h4
        have hg0 := hgt rfl
        repeat' first | (with_reducible first | refine nI1 ?_ | refine nI2 ?_ | refine nI3 ?_ | exact ⟨⟩ | refine Both.mk (fun _ => ?_) fun _ => ?_ | refine Both2.mk (fun _ => ?_) ?_ | (refine Need.mk ?_ ?_; (first | omega | exact CEq.refl _ | (dsimp only; omega) | (simp only [addN_eq]; omega) | exact ⟨rfl, rfl⟩ | (simp only [rng]; omega) | (rw [hX']; simp only [rng]; omega) | (rw [hX']; omega)))) | ((with_reducible fail_if_success first | constructor | show False); conv => whnf)
        · rename_i h5
          have h5 := of_decide_eq_true h5
          obtain ⟨m, hm1, hm2, hm3, hm4, hm5⟩ := adv_h (xl.getD 5 default).deficit (by omega) (.inr ⟨hne', by rw [hg0, hhd]; exact h5, hg0.symm⟩)
          refine LoopEnd.mk ⟨m, hm1, hm2, ?_⟩
          rw [hm3, hm4, hm5]
          rw [setSelf]
          (refine Le.of ?_ ?_ <;> repeat' first | exact trivial | exact CEq.refl _ | exact rfl | exact cI (by push_cast; first | rfl | omega) | exact SubE.dat fun _ _ _ _ => CEq.refl _ | refine SubE.var2 ?_ ?_ | refine SubE.var1 ?_ | refine SubE.var3 ?_ ?_ ?_ | refine SubE.var4 ?_ ?_ ?_ ?_ | refine SubE.var5 ?_ ?_ ?_ ?_ ?_ | refine SubE.varN ?_ | refine Exists.intro _ (And.intro rfl ?_) | refine And.intro ?_ ?_)
        · rename_i h5
          have h5 := of_decide_eq_false h5
          have hs := srv_h hne' (by rw [hg0, hhd]; exact h5)
          refine CallVC.mk' (fun _ => sl_Clone_int_ok K.m K.cloneI ((xl.getD 5 default).costs.length - 1) (fun i j => intE (((xl.getD 5 default).costs.drop 1).getD i default) j) (by omega)) (fun _ => .cons (.one (CEq.slice fun i hi j hj => ?_)) .nil) ?_
          · rw [List.getD_eq_getElem?_getD (l := (xl.getD 5 default).costs.drop 1), List.getElem?_drop, ← List.getD_eq_getElem?_getD]
            exact CEq.refl _
          have hc1 : 1 ≤ (xl.getD 5 default).costs.getD (Int.toNat 0) default ∧ (xl.getD 5 default).costs.getD (Int.toNat 0) default ≤ 8 := cc _ (getD_mem hne)
          have hdl : ((xl.getD 5 default).costs.drop 1).length = (xl.getD 5 default).costs.length - 1 := List.length_drop ..
          have hcc : CEq (Cell.sl 1 ((xl.getD 5 default).costs.length - 1) fun i j => (fun i j => intE (((xl.getD 5 default).costs.drop 1).getD i default) j) (addN 0 i) j) (slL 1 intE ((xl.getD 5 default).costs.drop 1)) := IsL.refl.off.ceq hdl.symm
          repeat' first | (with_reducible first | refine nI1 ?_ | refine nI2 ?_ | refine nI3 ?_ | exact ⟨⟩ | refine Both.mk (fun _ => ?_) fun _ => ?_ | refine Both2.mk (fun _ => ?_) ?_ | (refine Need.mk ?_ ?_; (first | omega | exact CEq.refl _ | (dsimp only; omega) | (simp only [addN_eq]; omega) | exact ⟨rfl, rfl⟩ | (simp only [rng]; omega) | (rw [hX']; simp only [rng]; omega) | (rw [hX']; omega)))) | ((with_reducible fail_if_success first | constructor | show False); conv => whnf)
          · rename_i h6
            have h6 := of_decide_eq_true h6
            have hz : lsE (srv ⟨xl, 5, true⟩) 0 = slL 3 lnE (xl.set 5 ⟨(xl.getD 5 default).weight, 0, (xl.getD 5 default).costs.drop 1⟩) := by
              show slL 3 lnE (xl.set 5 ⟨_, if (xl.getD 5 default).costs.drop 1 = [] then (0 : Int) else _, _⟩) = _
              rw [if_pos (List.length_eq_zero_iff.1 (by omega))]; rfl
            refine Out.mk (hQ _ _ ?_)
            rw [hs]
            repeat' first | (with_reducible first | refine nI1 ?_ | refine nI2 ?_ | refine nI3 ?_ | exact ⟨⟩ | refine Both.mk (fun _ => ?_) fun _ => ?_ | refine Both2.mk (fun _ => ?_) ?_ | (refine Need.mk ?_ ?_; (first | omega | exact CEq.refl _ | (dsimp only; omega) | (simp only [addN_eq]; omega) | exact ⟨rfl, rfl⟩ | (simp only [rng]; omega) | (rw [hX']; simp only [rng]; omega) | (rw [hX']; omega)))) | ((with_reducible fail_if_success first | constructor | show False); conv => whnf)
            refine Need.mk (by rw [hz]; exact (((Upd.start.c hcc).d).d).isL.off.ceq (by rw [List.length_set]; exact hlen.symm)) ?_
            repeat' first | (with_reducible first | refine nI1 ?_ | refine nI2 ?_ | refine nI3 ?_ | exact ⟨⟩ | refine Both.mk (fun _ => ?_) fun _ => ?_ | refine Both2.mk (fun _ => ?_) ?_ | (refine Need.mk ?_ ?_; (first | omega | exact CEq.refl _ | (dsimp only; omega) | (simp only [addN_eq]; omega) | exact ⟨rfl, rfl⟩ | (simp only [rng]; omega) | (rw [hX']; simp only [rng]; omega) | (rw [hX']; omega)))) | ((with_reducible refine Need.mk ?_ ?_); exact CEq.refl _) | ((with_reducible fail_if_success first | constructor | show False); conv => whnf)
          · rename_i h6
            have h6 := of_decide_eq_false h6
            have hz : lsE (srv ⟨xl, 5, true⟩) 0 = slL 3 lnE (xl.set 5 ⟨(xl.getD 5 default).weight, gv ⟨xl, 5, true⟩ - (xl.getD 5 default).costs.getD 0 default, (xl.getD 5 default).costs.drop 1⟩) := by
              show slL 3 lnE (xl.set 5 ⟨_, if (xl.getD 5 default).costs.drop 1 = [] then (0 : Int) else _, _⟩) = _
              rw [if_neg (fun e => by rw [e] at hdl; exact h6 (by rw [← hdl]; rfl))]; rfl
            rw [hg0] at hz
            refine Out.mk (hQ _ _ ?_)
            rw [hs]
            repeat' first | (with_reducible first | refine nI1 ?_ | refine nI2 ?_ | refine nI3 ?_ | exact ⟨⟩ | refine Both.mk (fun _ => ?_) fun _ => ?_ | refine Both2.mk (fun _ => ?_) ?_ | (refine Need.mk ?_ ?_; (first | omega | exact CEq.refl _ | (dsimp only; omega) | (simp only [addN_eq]; omega) | exact ⟨rfl, rfl⟩ | (simp only [rng]; omega) | (rw [hX']; simp only [rng]; omega) | (rw [hX']; omega)))) | ((with_reducible fail_if_success first | constructor | show False); conv => whnf)
            refine Need.mk (by rw [hz]; exact ((Upd.start.c hcc).d).isL.off.ceq (by rw [List.length_set]; exact hlen.symm)) ?_
            repeat' first | (with_reducible first | refine nI1 ?_ | refine nI2 ?_ | refine nI3 ?_ | exact ⟨⟩ | refine Both.mk (fun _ => ?_) fun _ => ?_ | refine Both2.mk (fun _ => ?_) ?_ | (refine Need.mk ?_ ?_; (first | omega | exact CEq.refl _ | (dsimp only; omega) | (simp only [addN_eq]; omega) | exact ⟨rfl, rfl⟩ | (simp only [rng]; omega) | (rw [hX']; simp only [rng]; omega) | (rw [hX']; omega)))) | ((with_reducible refine Need.mk ?_ ?_); exact CEq.refl _) | ((with_reducible fail_if_success first | constructor | show False); conv => whnf)
end
end Lk.S05
namespace Lk.S05
open Go Lk Lk.C
structure K05 (P : Program) (F : Nat → Nat) : Prop where
  k : KLn P F
  awake : law05_awake_k P F
def a0 : Ls := newL [1, 2]
def a1 : Ls := pushL a0 0 4
def a2 : Ls := pushL a1 1 8
def a3 : Ls := nextL a2
def a4 : Ls := nextL a3
theorem right.tiny {l : Ls} (h : right l) : Tiny l := ⟨by have := h.1.2; omega, fun x hx => by
  obtain ⟨i, hi, rfl⟩ := List.mem_iff_getElem.1 hx
  have := (h.2.2 i hi).2.2.1
  rw [getD_eq hi] at this; omega⟩
section
variable {P : Program} {F : Nat → Nat}
set_option maxHeartbeats 8000000 in
set_option maxRecDepth 100000 in
theorem awake_ok (K : K05 P F) : FnOk P (F 81) [] [.one (.im (.bool true))] := by
  refine fnOk K.k.m K.awake ?_
  have r0 : right a0 := by decide +kernel
  have r1 : right a1 := by decide +kernel
  have r2 : right a2 := by decide +kernel
  have r3 : right a3 := by decide +kernel
  have r4 : right a4 := by decide +kernel
  have e0 : newE [1, 2] = 0 := by decide +kernel
  have e1 : pushE a0 0 4 = 0 := by decide +kernel
  have e2 : pushE a1 1 8 = 0 := by decide +kernel
  have n2 : nextOk a2 := by decide +kernel
  have n3 : nextOk a3 := by decide +kernel
  have n4 : ¬ nextOk a4 := by decide +kernel
  have x2 : nextA a2 = 0 ∧ nextC a2 = 4 := by decide +kernel
  have x3 : nextA a3 = 1 ∧ nextC a3 = 8 := by decide +kernel
  repeat' first | (with_reducible first | refine nI1 ?_ | refine nI2 ?_ | refine nI3 ?_ | exact ⟨⟩ | refine Both.mk (fun _ => ?_) fun _ => ?_ | refine Both2.mk (fun _ => ?_) ?_ | (refine Need.mk ?_ ?_; (first | omega | exact CEq.refl _ | (dsimp only [rng]; omega) | (simp only [decide_eq_true_eq, decide_eq_false_iff_not, Bool.or_eq_true, Bool.and_eq_true, Bool.or_eq_false_iff, Int.toNat_natCast, addN_eq, cond_false, cond_true, rng] at *; omega) | exact ⟨rfl, rfl⟩))) | ((with_reducible refine Need.mk ?_ ?_); exact CEq.refl _) | ((with_reducible fail_if_success first | constructor | show False); conv => whnf)
  refine CallVC.mk' (fun _ => new_ok K.k [1, 2] (by decide)) (fun _ => .cons (.one (IsL.ceq (l := [1, 2]) (fun i hi j hj => by (obtain rfl : j = 0 := (by omega)); (rcases (show i = 0 ∨ i = 1 by (have hi : i < 2 := hi; omega)) with rfl | rfl <;> exact CEq.refl _)) rfl)) .nil) ?_
  rw [e0, show newL [1, 2] = a0 from rfl]
  have y1 : pushL a0 0 4 = a1 := rfl
  generalize a0 = b0 at *
  repeat' first | (with_reducible first | refine nI1 ?_ | refine nI2 ?_ | refine nI3 ?_ | exact ⟨⟩ | refine Both.mk (fun _ => ?_) fun _ => ?_ | refine Both2.mk (fun _ => ?_) ?_ | (refine Need.mk ?_ ?_; (first | omega | exact CEq.refl _ | (dsimp only [rng]; omega) | (simp only [decide_eq_true_eq, decide_eq_false_iff_not, Bool.or_eq_true, Bool.and_eq_true, Bool.or_eq_false_iff, Int.toNat_natCast, addN_eq, cond_false, cond_true, rng] at *; omega) | exact ⟨rfl, rfl⟩))) | ((with_reducible refine Need.mk ?_ ?_); exact CEq.refl _) | ((with_reducible fail_if_success first | constructor | show False); conv => whnf)
  refine CallVC.mk' (fun _ => push_ok K.k b0 0 4 r0.tiny) (fun _ => .cons ((.many fun j hj => by (rcases (show j = 0 ∨ j = 1 ∨ j = 2 by omega) with rfl | rfl | rfl <;> exact CEq.refl _))) (.cons (.one (CEq.refl _)) (.cons (.one (CEq.refl _)) .nil))) ?_
  rw [e1, y1]
  have y2 : pushL a1 1 8 = a2 := rfl
  clear y1
  generalize a1 = b1 at *
  repeat' first | (with_reducible first | refine nI1 ?_ | refine nI2 ?_ | refine nI3 ?_ | exact ⟨⟩ | refine Both.mk (fun _ => ?_) fun _ => ?_ | refine Both2.mk (fun _ => ?_) ?_ | (refine Need.mk ?_ ?_; (first | omega | exact CEq.refl _ | (dsimp only [rng]; omega) | (simp only [decide_eq_true_eq, decide_eq_false_iff_not, Bool.or_eq_true, Bool.and_eq_true, Bool.or_eq_false_iff, Int.toNat_natCast, addN_eq, cond_false, cond_true, rng] at *; omega) | exact ⟨rfl, rfl⟩))) | ((with_reducible refine Need.mk ?_ ?_); exact CEq.refl _) | ((with_reducible fail_if_success first | constructor | show False); conv => whnf)
  refine CallVC.mk' (fun _ => push_ok K.k b1 1 8 r1.tiny) (fun _ => .cons ((.many fun j hj => by (rcases (show j = 0 ∨ j = 1 ∨ j = 2 by omega) with rfl | rfl | rfl <;> exact CEq.refl _))) (.cons (.one (CEq.refl _)) (.cons (.one (CEq.refl _)) .nil))) ?_
  rw [e2, y2]
  have y3 : nextL a2 = a3 := rfl
  clear y2
  generalize a2 = b2 at *
  repeat' first | (with_reducible first | refine nI1 ?_ | refine nI2 ?_ | refine nI3 ?_ | exact ⟨⟩ | refine Both.mk (fun _ => ?_) fun _ => ?_ | refine Both2.mk (fun _ => ?_) ?_ | (refine Need.mk ?_ ?_; (first | omega | exact CEq.refl _ | (dsimp only [rng]; omega) | (simp only [decide_eq_true_eq, decide_eq_false_iff_not, Bool.or_eq_true, Bool.and_eq_true, Bool.or_eq_false_iff, Int.toNat_natCast, addN_eq, cond_false, cond_true, rng] at *; omega) | exact ⟨rfl, rfl⟩))) | ((with_reducible refine Need.mk ?_ ?_); exact CEq.refl _) | ((with_reducible fail_if_success first | constructor | show False); conv => whnf)
  refine CallVC.mk' (fun _ => next_ok K.k b2 r2.tiny) (fun _ => .cons ((.many fun j hj => by (rcases (show j = 0 ∨ j = 1 ∨ j = 2 by omega) with rfl | rfl | rfl <;> exact CEq.refl _))) .nil) ?_
  rw [y3, x2.1, x2.2, decide_eq_true n2]
  have y4 : nextL a3 = a4 := rfl
  clear y3
  generalize a3 = b3 at *
  repeat' first | (with_reducible first | refine nI1 ?_ | refine nI2 ?_ | refine nI3 ?_ | exact ⟨⟩ | refine Both.mk (fun _ => ?_) fun _ => ?_ | refine Both2.mk (fun _ => ?_) ?_ | (refine Need.mk ?_ ?_; (first | omega | exact CEq.refl _ | (dsimp only [rng]; omega) | (simp only [decide_eq_true_eq, decide_eq_false_iff_not, Bool.or_eq_true, Bool.and_eq_true, Bool.or_eq_false_iff, Int.toNat_natCast, addN_eq, cond_false, cond_true, rng] at *; omega) | exact ⟨rfl, rfl⟩))) | ((with_reducible refine Need.mk ?_ ?_); exact CEq.refl _) | ((with_reducible fail_if_success first | constructor | show False); conv => whnf)
  refine CallVC.mk' (fun _ => next_ok K.k b3 r3.tiny) (fun _ => .cons ((.many fun j hj => by (rcases (show j = 0 ∨ j = 1 ∨ j = 2 by omega) with rfl | rfl | rfl <;> exact CEq.refl _))) .nil) ?_
  rw [y4, x3.1, x3.2, decide_eq_true n3]
  clear y4
  generalize a4 = b4 at *
  repeat' first | (with_reducible first | refine nI1 ?_ | refine nI2 ?_ | refine nI3 ?_ | exact ⟨⟩ | refine Both.mk (fun _ => ?_) fun _ => ?_ | refine Both2.mk (fun _ => ?_) ?_ | (refine Need.mk ?_ ?_; (first | omega | exact CEq.refl _ | (dsimp only [rng]; omega) | (simp only [decide_eq_true_eq, decide_eq_false_iff_not, Bool.or_eq_true, Bool.and_eq_true, Bool.or_eq_false_iff, Int.toNat_natCast, addN_eq, cond_false, cond_true, rng] at *; omega) | exact ⟨rfl, rfl⟩))) | ((with_reducible refine Need.mk ?_ ?_); exact CEq.refl _) | ((with_reducible fail_if_success first | constructor | show False); conv => whnf)
  refine CallVC.mk' (fun _ => next_ok K.k b4 r4.tiny) (fun _ => .cons ((.many fun j hj => by (rcases (show j = 0 ∨ j = 1 ∨ j = 2 by omega) with rfl | rfl | rfl <;> exact CEq.refl _))) .nil) ?_
  rw [decide_eq_false n4]
  repeat' first | (with_reducible first | refine nI1 ?_ | refine nI2 ?_ | refine nI3 ?_ | exact ⟨⟩ | refine Both.mk (fun _ => ?_) fun _ => ?_ | refine Both2.mk (fun _ => ?_) ?_ | (refine Need.mk ?_ ?_; (first | omega | exact CEq.refl _ | (dsimp only [rng]; omega) | (simp only [decide_eq_true_eq, decide_eq_false_iff_not, Bool.or_eq_true, Bool.and_eq_true, Bool.or_eq_false_iff, Int.toNat_natCast, addN_eq, cond_false, cond_true, rng] at *; omega) | exact ⟨rfl, rfl⟩))) | ((with_reducible refine Need.mk ?_ ?_); exact CEq.refl _) | ((with_reducible fail_if_success first | constructor | show False); conv => whnf)
  refine CallVC.mk' (fun _ => right_ok K.k.m K.k.right b4 r4.tiny) (fun _ => .cons ((.many fun j hj => by (rcases (show j = 0 ∨ j = 1 ∨ j = 2 by omega) with rfl | rfl | rfl <;> exact CEq.refl _))) .nil) ?_
  rw [decide_eq_true r4]
  repeat' first | (with_reducible first | refine nI1 ?_ | refine nI2 ?_ | refine nI3 ?_ | exact ⟨⟩ | refine Both.mk (fun _ => ?_) fun _ => ?_ | refine Both2.mk (fun _ => ?_) ?_ | (refine Need.mk ?_ ?_; (first | omega | exact CEq.refl _ | (dsimp only [rng]; omega) | (simp only [decide_eq_true_eq, decide_eq_false_iff_not, Bool.or_eq_true, Bool.and_eq_true, Bool.or_eq_false_iff, Int.toNat_natCast, addN_eq, cond_false, cond_true, rng] at *; omega) | exact ⟨rfl, rfl⟩))) | ((with_reducible refine Need.mk ?_ ?_); exact CEq.refl _) | ((with_reducible fail_if_success first | constructor | show False); conv => whnf)
end
end Lk.S05
