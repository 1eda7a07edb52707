/-
  Gs06b: what these chapters need.
-/
import Derived.Test.YtaijfhomokkpeaaGs06a
set_option linter.unusedSimpArgs false
set_option linter.unusedVariables false
namespace Lk.C
open Go Lk
/- The same code, with two more own slices kept. -/
def law06_SchedDrains2_c (F : Nat → Nat) : ACode :=
  (.seq
    (.reg law06_SchedDrains_r0 (some ([0], [17, 64, 65, 2000, 2001])))
    (.seq
      (.reg (law06_SchedDrains_r1 F) (some ([0, 3, 4], [3, 17, 64, 65, 2000, 2001])))
      (.seq
        (.seq
          (.reg law06_SchedDrains_r2 (some ([0, 3, 4, 27], [3, 17, 64, 65, 2000, 2001])))
          (.cond (.t 27)
            (.seq
              (.reg (law06_SchedDrains_r3 F) (some ([2], [17, 64, 65, 2000, 2001])))
              .ret)
            .skip))
        (.seq
          (.reg law06_SchedDrains_r4 (some ([0, 3, 5], [3, 5, 17, 64, 65, 2000, 2001])))
          (.seq
            (.seq
              (.reg law06_SchedDrains_r5 (some ([3, 5, 33, 34, 35], [3, 5, 17, 64, 65, 2000, 2001])))
              (.block 0
                (.loop
                  (.seq
                    (.reg law06_SchedDrains_r6 (some ([3, 5, 33, 34, 35, 36], [3, 5, 17, 64, 65, 2000, 2001])))
                    (.seq
                      (.cond (.t 36)
                        .skip
                        (.exit 0))
                      (.seq
                        (.block 1
                          (.seq
                            (.reg law06_SchedDrains_r7 (some ([3, 5, 7, 33, 34, 35], [3, 5, 7, 17, 64, 65, 2000, 2001])))
                            (.seq
                              (.reg (law06_SchedDrains_r8 F) (some ([3, 5, 7, 8, 9, 33, 34, 35], [3, 5, 7, 8, 17, 64, 65, 2000, 2001])))
                              (.seq
                                (.seq
                                  (.reg law06_SchedDrains_r9 (some ([3, 5, 7, 8, 33, 34, 35, 56], [3, 5, 7, 8, 17, 64, 65, 2000, 2001])))
                                  (.cond (.t 56)
                                    (.regD law06_SchedDrains_r10 [(0, 7), (1, 7), (2, 7), (3, 7), (4, 7), (5, 7), (0, 8), (1, 8)] (some ([3, 5, 8, 33, 34, 35], [3, 5, 8, 17, 64, 65, 2000, 2001])))
                                    .skip))
                                (.reg law06_SchedDrains_r11 (some ([3, 5, 33, 34, 35], [3, 5, 17, 64, 65, 2000, 2001])))))))
                        (.reg law06_SchedDrains_r12 (some ([3, 5, 33, 34, 35], [3, 5, 17, 64, 65, 2000, 2001])))))))))
            (.seq
              (.reg law06_SchedDrains_r13 (some ([3, 5, 10], [3, 5, 17, 64, 65, 2000, 2001])))
              (.seq
                (.seq
                  (.reg law06_SchedDrains_r14 (some ([3, 5, 76, 77], [3, 5, 17, 64, 65, 2000, 2001])))
                  (.block 2
                    (.loop
                      (.seq
                        (.reg law06_SchedDrains_r15 (some ([3, 5, 76, 77, 78], [3, 5, 17, 64, 65, 2000, 2001])))
                        (.seq
                          (.cond (.t 78)
                            .skip
                            (.exit 2))
                          (.seq
                            (.block 3
                              (.seq
                                (.reg (law06_SchedDrains_r16 F) (some ([3, 5, 76, 77], [3, 5, 17, 64, 65, 2000, 2001])))
                                (.seq
                                  (.reg (law06_SchedDrains_r17 F) (some ([3, 5, 11, 12, 13, 14, 76, 77], [3, 5, 11, 12, 17, 64, 65, 2000, 2001])))
                                  (.seq
                                    (.seq
                                      (.regD law06_SchedDrains_r18 [] (some ([3, 5, 11, 12, 76, 77, 135], [3, 5, 11, 12, 17, 64, 65, 2000, 2001])))
                                      (.cond (.t 135)
                                        (.seq
                                          (.reg law06_SchedDrains_r19 (some ([2], [17, 64, 65, 2000, 2001])))
                                          .ret)
                                        .skip))
                                    (.seq
                                      (.regD law06_SchedDrains_r20 [] (some ([3, 5, 11, 76, 77], [3, 5, 11, 17, 64, 65, 2000, 2001])))
                                      (.reg law06_SchedDrains_r21 (some ([3, 5, 76, 77], [3, 5, 17, 64, 65, 2000, 2001]))))))))
                            (.reg law06_SchedDrains_r22 (some ([3, 5, 76, 77], [3, 5, 17, 64, 65, 2000, 2001])))))))))
                (.seq
                  (.reg (law06_SchedDrains_r23 F) (some ([3], [3, 17, 64, 65, 2000, 2001])))
                  (.seq
                    (.reg (law06_SchedDrains_r24 F) (some ([2], [17, 64, 65, 2000, 2001])))
                    .ret)))))))))
def law06_SchedDrains2_k (P : Program) (F : Nat → Nat) : Prop := chkFn P (F 162) 1 (law06_SchedDrains2_c F) [2] = true
end Lk.C
namespace Lk.S06
open Go Lk Lk.C Lk.S03 Lk.S04
def dr0 : Sd := (newS v0 [2, 1]).1
theorem d0e : (newS v0 [2, 1]).2 = 0 := by decide +kernel
theorem AQ.zero : AQ 0 (fun _ => []) dr0 := ⟨by decide +kernel, by decide +kernel, by decide +kernel, by decide +kernel, by decide +kernel, by decide +kernel⟩
def wJ (W : Nat → List Jb) (r : Nat) : Ent := ⟨5, (W r).length, .dat fun i j => jbE ((W r).getD i default) j, false, true⟩
def wJz (W : Nat → List Jb) (r : Nat) : Ent := ⟨5, (W r).length, .dat fun i j => jbE ((W r).getD i default) j, true, true⟩
def wK (W : Nat → List Jb) : EC := .gen fun r _ => .os (2000 + r) 0 5 0 (W r).length
theorem extJ_len {W : Nat → List Jb} {k : Nat} {c : Jb} : (extJ W k c k).length = (W k).length + 1 := by
  unfold extJ
  rw [show Nat.beq k k = true by simp]
  show (W k ++ [c]).length = _
  simp
theorem extJ_ceq {W : Nat → List Jb} {k : Nat} {c : Jb} {g : Nat → Nat → Cell} (hg : IsL 5 jbE [c] g) (i : Nat) (hi : i < (W k).length + 1) (j : Nat) (hj : j < 5) :
    CEq (appC (fun i j => jbE ((W k).getD i default) j) (W k).length g i j) (jbE ((extJ W k c k).getD i default) j) := by
  unfold extJ
  rw [show Nat.beq k k = true by simp, cond_true]
  exact (IsL.refl (size := 5) (enc := jbE) (l := W k)).app rfl hg i (by rw [List.length_append]; exact hi) j hj
theorem wJ_ceq {l : List Jb} : CEq (.sl 5 l.length fun i j => jbE (l.getD (addN 0 i) default) j) (slL 5 jbE l) := by
  refine CEq.slice fun i hi j hj => ?_
  rw [addN_eq, Nat.zero_add]
  exact CEq.refl _
theorem popJ {W : Nat → List Jb} {q r ix : Nat} {X : Cell} (hix : ix = q) (hX : CEq X (slL 5 jbE ((W q).drop 1))) : CEq (updC (fun r _ => slL 5 jbE (W r)) ix 0 X r 0) (slL 5 jbE (dropJ W q r)) := by
  rw [updC_at, hix]
  unfold dropJ
  by_cases e : r = q
  · rw [if_pos ⟨e, rfl⟩, if_pos e]; exact hX
  · rw [if_neg (fun x => e x.1), if_neg e]; exact CEq.refl _
section
variable {P : Program} {F : Nat → Nat}
set_option maxHeartbeats 8000000 in
set_option maxRecDepth 100000 in
theorem schedDrains_law (L : KLS P F) (hk : law06_SchedDrains2_k P F) (jobs : List Jb) (W : (∀ x ∈ jobs, EJb.wf x) ∧ jobs.length ≤ 9223372036854775807) : FnOk P (F 162) [.one (slL 5 jbE jobs)] [.one (.im (.bool true))] := by
  have K := L.k
  refine fnOk K.d.k.m hk ?_
  repeat' first | (with_reducible first | refine nI1 ?_ | refine nI2 ?_ | refine nI3 ?_ | exact ⟨⟩ | refine Both.mk (fun _ => ?_) fun _ => ?_ | refine Both2.mk (fun _ => ?_) ?_) | ((with_reducible refine Need.mk ?_ ?_; show CEq _ _); exact CEq.refl _) | (with_reducible refine Need.mk ?_ ?_; (first | omega | exact CEq.refl _ | (dsimp only [rng]; omega) | (rw [Int.toNat_natCast]; omega) | (simp only [addN_eq]; omega))) | ((with_reducible fail_if_success first | constructor | show False); conv => whnf)
  refine CallVC.mk' (fun _ => S04.new_ok K.d L.new4) (fun _ => .nil) ?_
  repeat' first | (with_reducible first | refine nI1 ?_ | refine nI2 ?_ | refine nI3 ?_ | exact ⟨⟩ | refine Both.mk (fun _ => ?_) fun _ => ?_ | refine Both2.mk (fun _ => ?_) ?_) | ((with_reducible refine Need.mk ?_ ?_; show CEq _ _); exact CEq.refl _) | (with_reducible refine Need.mk ?_ ?_; (first | omega | exact CEq.refl _ | (dsimp only [rng]; omega) | (rw [Int.toNat_natCast]; omega) | (simp only [addN_eq]; omega))) | ((with_reducible fail_if_success first | constructor | show False); conv => whnf)
  refine CallVC.mk' (fun _ => newS_ok K v0 [2, 1] sv0' (by decide)) (fun _ => .cons ((.many fun j hj => by (rcases (show j = 0 ∨ j = 1 ∨ j = 2 ∨ j = 3 by omega) with rfl | rfl | rfl | rfl <;> exact CEq.refl _))) (.cons (.one (IsL.ceq (l := [2, 1]) (fun i hi j hj => by (obtain rfl : j = 0 := (by omega)); (rcases (show i = 0 ∨ i = 1 by (have hi : i < 2 := hi; omega)) with rfl | rfl <;> exact CEq.refl _)) rfl)) .nil)) ?_
  rw [d0e, show (newS v0 [2, 1]).1 = dr0 from rfl]
  have I0 := AQ.zero
  generalize dr0 = s0 at *
  repeat' first | (with_reducible first | refine nI1 ?_ | refine nI2 ?_ | refine nI3 ?_ | exact ⟨⟩ | refine Both.mk (fun _ => ?_) fun _ => ?_ | refine Both2.mk (fun _ => ?_) ?_) | ((with_reducible refine Need.mk ?_ ?_; show CEq _ _); exact CEq.refl _) | (with_reducible refine Need.mk ?_ ?_; (first | omega | exact CEq.refl _ | (dsimp only [rng]; omega) | (rw [Int.toNat_natCast]; omega) | (simp only [addN_eq]; omega))) | ((with_reducible fail_if_success first | constructor | show False); conv => whnf)
  · refine CallVC.mk' (fun _ => awake_ok L) (fun _ => .nil) ?_
    repeat' first | (with_reducible first | refine nI1 ?_ | refine nI2 ?_ | refine nI3 ?_ | exact ⟨⟩ | refine Both.mk (fun _ => ?_) fun _ => ?_ | refine Both2.mk (fun _ => ?_) ?_) | ((with_reducible refine Need.mk ?_ ?_; show CEq _ _); exact CEq.refl _) | (with_reducible refine Need.mk ?_ ?_; (first | omega | exact CEq.refl _ | (dsimp only [rng]; omega) | (rw [Int.toNat_natCast]; omega) | (simp only [addN_eq]; omega))) | ((with_reducible fail_if_success first | constructor | show False); conv => whnf)
  rename_i h60
  have h60 : jobs.length ≤ 60 := by
    rw [show (!decide ((0 : Int) = 0)) = false from rfl, Bool.false_or] at h60
    have := of_decide_eq_false h60; omega
  refine LoopVC.inv (X := Sd × (Nat → List Jb) × Nat) (fun x => x.2.2 ≤ jobs.length ∧ AQ x.2.2 x.2.1 x.1) (fun x => stL [(3, .va 3 0 0), (5, .ra 5 0 1 0 0), (33, .c (slL 5 jbE jobs)), (34, .c (.int .i64 jobs.length)), (35, .c (.int .i64 x.2.2))]
    [(3, sV x.1), (5, ⟨1, 2, wK x.2.1, false, true⟩), (2000, wJ x.2.1 0), (2001, wJ x.2.1 1)]) (fun x => jobs.length - x.2.2) (s0, fun _ => [], 0) ⟨Nat.zero_le _, I0⟩ ?_ ?_
  · (refine Le.ofN [2000, 2001] ?_ ?_ <;> repeat' first | exact trivial | exact SubF.inr ⟨_, _, _, rfl, rfl, rfl⟩ | exact SubF.inl (cI (by push_cast; first | rfl | omega)) | exact SubF.inl (CEq.refl _) | exact SubF.inl rfl | exact SubF.inl trivial | exact SubF.inl ⟨rfl, rfl, rfl⟩ | exact SubF.inl ⟨rfl, rfl, rfl, rfl, rfl⟩ | exact Or.inl ⟨rfl, rfl⟩ | refine Or.inr ⟨rfl, _, rfl, ?_⟩ | refine SubEF.var2 ?_ ?_ | refine SubEF.var1 ?_ | refine SubEF.var3 ?_ ?_ ?_ | refine SubEF.varN ?_ | refine SubEF.var4 ?_ ?_ ?_ ?_ | exact SubEF.of (SubE.dat fun _ _ _ _ => CEq.refl _) | refine And.intro ?_ ?_ | refine SubF.frz rfl rfl rfl rfl (Nat.le_of_eq (Nat.zero_add _)) rfl rfl ?_)
    exact ⟨rfl, rfl, id, id, fun r hr j hj => by
      have hj : j < 1 := hj
      have hr : r < 2 := hr
      obtain rfl : j = 0 := by omega
      rcases (show r = 0 ∨ r = 1 by omega) with rfl | rfl <;> exact SubF.inr ⟨_, _, _, rfl, rfl, rfl⟩⟩
  rintro Q hQ ⟨s, W1, i⟩ ⟨hi, I⟩
  dsimp only at hi I
  dsimp only
  have S := I.r.small
  repeat' first | (with_reducible first | refine nI1 ?_ | refine nI2 ?_ | refine nI3 ?_ | exact ⟨⟩ | refine Both.mk (fun _ => ?_) fun _ => ?_ | refine Both2.mk (fun _ => ?_) ?_) | ((with_reducible refine Need.mk ?_ ?_; show CEq _ _); exact CEq.refl _) | (with_reducible refine Need.mk ?_ ?_; (first | omega | exact CEq.refl _ | (dsimp only [rng]; omega) | (rw [Int.toNat_natCast]; omega) | (simp only [addN_eq]; omega))) | ((with_reducible fail_if_success first | constructor | show False); conv => whnf)
  · rename_i g
    have g : i < jobs.length := by have := of_decide_eq_true g; omega
    have Wx := W.1 _ (getD_mem g)
    have h1 : i + 1 ≤ jobs.length := g
    repeat' first | (with_reducible first | refine nI1 ?_ | refine nI2 ?_ | refine nI3 ?_ | exact ⟨⟩ | refine Both.mk (fun _ => ?_) fun _ => ?_ | refine Both2.mk (fun _ => ?_) ?_) | ((with_reducible refine Need.mk ?_ ?_; show CEq _ _); exact CEq.refl _) | (with_reducible refine Need.mk ?_ ?_; (first | omega | exact CEq.refl _ | (dsimp only [rng]; omega) | (rw [Int.toNat_natCast]; omega) | (simp only [addN_eq]; omega))) | ((with_reducible fail_if_success first | constructor | show False); conv => whnf)
    rw [Int.toNat_natCast]
    generalize jobs.getD i default = x at *
    refine CallVC.mk' (fun _ => ask_ok K s x S Wx.1) (fun _ => .cons ((.many fun j hj => by (rcases (show j = 0 ∨ j = 1 ∨ j = 2 ∨ j = 3 ∨ j = 4 ∨ j = 5 ∨ j = 6 ∨ j = 7 ∨ j = 8 by omega) with rfl | rfl | rfl | rfl | rfl | rfl | rfl | rfl | rfl <;> exact CEq.refl _))) (.cons ((.many fun j hj => by (rcases (show j = 0 ∨ j = 1 ∨ j = 2 ∨ j = 3 ∨ j = 4 by omega) with rfl | rfl | rfl | rfl | rfl <;> exact CEq.refl _))) .nil)) ?_
    by_cases e : (askS s x).2 = 0
    · obtain ⟨k, hk1, hk2, I2⟩ := I.yes e
      rw [e]
      generalize (askS s x).1 = s2 at *
      obtain ⟨xw, xk, xp, xd, xt⟩ := x
      have hk1 : xw = k := hk1
      subst hk1
      have hWl : (W1 k).length ≤ 60 := by
        have h5 := I.t
        have h6 := wtg_two I.n
        rw [I.w 0 (by decide), I.w 1 (by decide)] at h6
        rcases (show k = 0 ∨ k = 1 by omega) with rfl | rfl <;> omega
      rcases (show k = 0 ∨ k = 1 by omega) with rfl | rfl
      · repeat' first | (with_reducible first | refine nI1 ?_ | refine nI2 ?_ | refine nI3 ?_ | exact ⟨⟩ | refine Both.mk (fun _ => ?_) fun _ => ?_ | refine Both2.mk (fun _ => ?_) ?_) | ((with_reducible refine Need.mk ?_ ?_; show CEq _ _); exact CEq.refl _) | (with_reducible refine Need.mk ?_ ?_; (first | omega | exact CEq.refl _ | (dsimp only [rng]; omega) | (rw [Int.toNat_natCast]; omega) | (simp only [addN_eq]; omega))) | ((with_reducible fail_if_success first | constructor | show False); conv => whnf)
        · refine Need.mk ⟨rfl, rfl⟩ ?_
          repeat' first | (with_reducible first | refine nI1 ?_ | refine nI2 ?_ | refine nI3 ?_ | exact ⟨⟩ | refine Both.mk (fun _ => ?_) fun _ => ?_ | refine Both2.mk (fun _ => ?_) ?_) | ((with_reducible refine Need.mk ?_ ?_; show CEq _ _); exact CEq.refl _) | (with_reducible refine Need.mk ?_ ?_; (first | omega | exact CEq.refl _ | (dsimp only [rng]; omega) | (rw [Int.toNat_natCast]; omega) | (simp only [addN_eq]; omega))) | ((with_reducible fail_if_success first | constructor | show False); conv => whnf)
          refine LoopEnd.mk ⟨(s2, extJ W1 0 ⟨((0 : Nat) : Int), xk, xp, xd, xt⟩, i + 1), ⟨h1, I2⟩, by show jobs.length - (i + 1) < jobs.length - i; omega, ?_⟩
          clear hQ
          have hlen := extJ_len (W := W1) (k := 0) (c := ⟨((0 : Nat) : Int), xk, xp, xd, xt⟩)
          (refine Le.of ?_ ?_ <;> repeat' first | exact trivial | exact CEq.refl _ | exact rfl | exact cI (by push_cast; first | rfl | omega) | exact SubE.dat fun _ _ _ _ => CEq.refl _ | refine SubE.var2 ?_ ?_ | refine SubE.var1 ?_ | refine SubE.var3 ?_ ?_ ?_ | refine SubE.var4 ?_ ?_ ?_ ?_ | refine SubE.var5 ?_ ?_ ?_ ?_ ?_ | refine SubE.varN ?_ | refine Exists.intro _ (And.intro rfl ?_) | refine And.intro ?_ ?_)
          · exact ⟨rfl, rfl, id, id, fun r hr j hj => by
              have hj : j < 1 := hj
              have hr : r < 2 := hr
              obtain rfl : j = 0 := by omega
              rcases (show r = 0 ∨ r = 1 by omega) with rfl | rfl <;> first | exact ⟨rfl, rfl, rfl, rfl, rfl⟩ | exact ⟨rfl, rfl, rfl, rfl, hlen.symm⟩⟩
          · exact ⟨rfl, hlen.symm, id, id, fun i hi j hj => extJ_ceq (isL_one (x := ⟨((0 : Nat) : Int), xk, xp, xd, xt⟩) rfl rfl rfl rfl rfl) i hi j hj⟩
        · rename_i z
          have z : (decide ((0 : Int) = 0) && decide ((0 : Int) ≤ ((0 : Nat) : Int)) && decide (((0 : Nat) : Int) < 2)) = false := z
          exact absurd z (by decide)
      · repeat' first | (with_reducible first | refine nI1 ?_ | refine nI2 ?_ | refine nI3 ?_ | exact ⟨⟩ | refine Both.mk (fun _ => ?_) fun _ => ?_ | refine Both2.mk (fun _ => ?_) ?_) | ((with_reducible refine Need.mk ?_ ?_; show CEq _ _); exact CEq.refl _) | (with_reducible refine Need.mk ?_ ?_; (first | omega | exact CEq.refl _ | (dsimp only [rng]; omega) | (rw [Int.toNat_natCast]; omega) | (simp only [addN_eq]; omega))) | ((with_reducible fail_if_success first | constructor | show False); conv => whnf)
        · refine Need.mk ⟨rfl, rfl⟩ ?_
          repeat' first | (with_reducible first | refine nI1 ?_ | refine nI2 ?_ | refine nI3 ?_ | exact ⟨⟩ | refine Both.mk (fun _ => ?_) fun _ => ?_ | refine Both2.mk (fun _ => ?_) ?_) | ((with_reducible refine Need.mk ?_ ?_; show CEq _ _); exact CEq.refl _) | (with_reducible refine Need.mk ?_ ?_; (first | omega | exact CEq.refl _ | (dsimp only [rng]; omega) | (rw [Int.toNat_natCast]; omega) | (simp only [addN_eq]; omega))) | ((with_reducible fail_if_success first | constructor | show False); conv => whnf)
          refine LoopEnd.mk ⟨(s2, extJ W1 1 ⟨((1 : Nat) : Int), xk, xp, xd, xt⟩, i + 1), ⟨h1, I2⟩, by show jobs.length - (i + 1) < jobs.length - i; omega, ?_⟩
          clear hQ
          have hlen := extJ_len (W := W1) (k := 1) (c := ⟨((1 : Nat) : Int), xk, xp, xd, xt⟩)
          (refine Le.of ?_ ?_ <;> repeat' first | exact trivial | exact CEq.refl _ | exact rfl | exact cI (by push_cast; first | rfl | omega) | exact SubE.dat fun _ _ _ _ => CEq.refl _ | refine SubE.var2 ?_ ?_ | refine SubE.var1 ?_ | refine SubE.var3 ?_ ?_ ?_ | refine SubE.var4 ?_ ?_ ?_ ?_ | refine SubE.var5 ?_ ?_ ?_ ?_ ?_ | refine SubE.varN ?_ | refine Exists.intro _ (And.intro rfl ?_) | refine And.intro ?_ ?_)
          · exact ⟨rfl, rfl, id, id, fun r hr j hj => by
              have hj : j < 1 := hj
              have hr : r < 2 := hr
              obtain rfl : j = 0 := by omega
              rcases (show r = 0 ∨ r = 1 by omega) with rfl | rfl <;> first | exact ⟨rfl, rfl, rfl, rfl, rfl⟩ | exact ⟨rfl, rfl, rfl, rfl, hlen.symm⟩⟩
          · exact ⟨rfl, hlen.symm, id, id, fun i hi j hj => extJ_ceq (isL_one (x := ⟨((1 : Nat) : Int), xk, xp, xd, xt⟩) rfl rfl rfl rfl rfl) i hi j hj⟩
        · rename_i z
          have z : (decide ((0 : Int) = 0) && decide ((0 : Int) ≤ ((1 : Nat) : Int)) && decide (((1 : Nat) : Int) < 2)) = false := z
          exact absurd z (by decide)
    · have I2 := I.no e
      generalize (askS s x).1 = s2 at *
      generalize (askS s x).2 = e2 at *
      repeat' first | (with_reducible first | refine nI1 ?_ | refine nI2 ?_ | refine nI3 ?_ | exact ⟨⟩ | refine Both.mk (fun _ => ?_) fun _ => ?_ | refine Both2.mk (fun _ => ?_) ?_) | ((with_reducible refine Need.mk ?_ ?_; show CEq _ _); exact CEq.refl _) | (with_reducible refine Need.mk ?_ ?_; (first | omega | exact CEq.refl _ | (dsimp only [rng]; omega) | (rw [Int.toNat_natCast]; omega) | (simp only [addN_eq]; omega))) | ((with_reducible fail_if_success first | constructor | show False); conv => whnf)
      · rename_i z
        rw [decide_eq_false e] at z
        cases z
      refine LoopEnd.mk ⟨(s2, W1, i + 1), ⟨h1, I2⟩, by show jobs.length - (i + 1) < jobs.length - i; omega, ?_⟩
      clear hQ
      (refine Le.of ?_ ?_ <;> repeat' first | exact trivial | exact CEq.refl _ | exact rfl | exact cI (by push_cast; first | rfl | omega) | exact SubE.dat fun _ _ _ _ => CEq.refl _ | refine SubE.var2 ?_ ?_ | refine SubE.var1 ?_ | refine SubE.var3 ?_ ?_ ?_ | refine SubE.var4 ?_ ?_ ?_ ?_ | refine SubE.var5 ?_ ?_ ?_ ?_ ?_ | refine SubE.varN ?_ | refine Exists.intro _ (And.intro rfl ?_) | refine And.intro ?_ ?_)
      exact ⟨rfl, rfl, id, id, fun r hr j hj => by
        have hr : r < 2 := hr
        rcases (show r = 0 ∨ r = 1 by omega) with rfl | rfl <;> exact ⟨rfl, rfl, rfl, rfl, rfl⟩⟩
  · rename_i g
    have g : i = jobs.length := by have := of_decide_eq_false g; omega
    have D0 := I.drain (by omega)
    have hl0 : (W1 0).length + (W1 1).length ≤ 60 := by
      have h5 := I.t
      have h6 := wtg_two I.n
      rw [I.w 0 (by decide), I.w 1 (by decide)] at h6
      omega
    refine Out.mk (hQ _ _ ?_)
    clear hQ
    repeat' first | (with_reducible first | refine nI1 ?_ | refine nI2 ?_ | refine nI3 ?_ | exact ⟨⟩ | refine Both.mk (fun _ => ?_) fun _ => ?_ | refine Both2.mk (fun _ => ?_) ?_) | ((with_reducible refine Need.mk ?_ ?_; show CEq _ _); exact CEq.refl _) | (with_reducible refine Need.mk ?_ ?_; (first | omega | exact CEq.refl _ | (dsimp only [rng]; omega) | (rw [Int.toNat_natCast]; omega) | (simp only [addN_eq]; omega))) | ((with_reducible fail_if_success first | constructor | show False); conv => whnf)
    refine Need.mk (by show rng .i64 (((W1 0).length : Int) + ((W1 1).length : Int)); dsimp only [rng]; omega) ?_
    rw [show ((W1 (Int.toNat 0)).length : Int) + ((W1 (Int.toNat 1)).length : Int) = (((W1 0).length + (W1 1).length : Nat) : Int) by push_cast; rfl]
    generalize hlf : (W1 0).length + (W1 1).length = left at *
    repeat' first | (with_reducible first | refine nI1 ?_ | refine nI2 ?_ | refine nI3 ?_ | exact ⟨⟩ | refine Both.mk (fun _ => ?_) fun _ => ?_ | refine Both2.mk (fun _ => ?_) ?_) | ((with_reducible refine Need.mk ?_ ?_; show CEq _ _); exact CEq.refl _) | (with_reducible refine Need.mk ?_ ?_; (first | omega | exact CEq.refl _ | (dsimp only [rng]; omega) | (rw [Int.toNat_natCast]; omega) | (simp only [addN_eq]; omega))) | ((with_reducible fail_if_success first | constructor | show False); conv => whnf)
    clear I S hlf g hi Q
    refine LoopVC.inv (X := Sd × (Nat → List Jb) × Nat) (fun x => x.2.2 ≤ left ∧ DR x.2.2 left x.2.1 x.1) (fun x => stL [(3, .va 3 0 0), (5, .ra 5 0 1 0 0), (76, .c (.int .i64 left)), (77, .c (.int .i64 x.2.2))]
      [(3, sV x.1), (5, ⟨1, 2, .dat fun r _ => slL 5 jbE (x.2.1 r), false, true⟩)]) (fun x => left - x.2.2) (s, W1, 0) ⟨Nat.zero_le _, D0⟩ ?_ ?_
    · refine Le.trans (s2 := stL [(3, .va 3 0 0), (5, .ra 5 0 1 0 0), (76, .c (.int .i64 left)), (77, .c (.int .i64 (0 : Nat)))]
        [(3, sV s), (5, ⟨1, 2, wK W1, false, true⟩), (2000, wJz W1 0), (2001, wJz W1 1)]) ?_ ?_
      · (refine Le.of ?_ ?_ <;> repeat' first | exact trivial | exact CEq.refl _ | exact rfl | exact cI (by push_cast; first | rfl | omega) | exact SubE.dat fun _ _ _ _ => CEq.refl _ | refine SubE.var2 ?_ ?_ | refine SubE.var1 ?_ | refine SubE.var3 ?_ ?_ ?_ | refine SubE.var4 ?_ ?_ ?_ ?_ | refine SubE.var5 ?_ ?_ ?_ ?_ ?_ | refine SubE.varN ?_ | refine Exists.intro _ (And.intro rfl ?_) | refine And.intro ?_ ?_)
        all_goals first | exact ⟨rfl, rfl, fun _ => rfl, id, fun i hi j hj => CEq.refl _⟩ | exact ⟨rfl, rfl, id, id, fun r hr j hj => ⟨rfl, rfl, rfl, rfl, rfl⟩⟩
      (refine Le.ofN [] ?_ ?_ <;> repeat' first | exact trivial | exact SubF.inr ⟨_, _, _, rfl, rfl, rfl⟩ | exact SubF.inl (cI (by push_cast; first | rfl | omega)) | exact SubF.inl (CEq.refl _) | exact SubF.inl rfl | exact SubF.inl trivial | exact SubF.inl ⟨rfl, rfl, rfl⟩ | exact SubF.inl ⟨rfl, rfl, rfl, rfl, rfl⟩ | exact Or.inl ⟨rfl, rfl⟩ | refine Or.inr ⟨rfl, _, rfl, ?_⟩ | refine SubEF.var2 ?_ ?_ | refine SubEF.var1 ?_ | refine SubEF.var3 ?_ ?_ ?_ | refine SubEF.varN ?_ | refine SubEF.var4 ?_ ?_ ?_ ?_ | exact SubEF.of (SubE.dat fun _ _ _ _ => CEq.refl _) | refine And.intro ?_ ?_ | refine SubF.frz rfl rfl rfl rfl (Nat.le_of_eq (Nat.zero_add _)) rfl rfl ?_)
      exact ⟨rfl, rfl, id, id, fun r hr j hj => by
        have hj : j < 1 := hj
        have hr : r < 2 := hr
        obtain rfl : j = 0 := by omega
        rcases (show r = 0 ∨ r = 1 by omega) with rfl | rfl <;> exact SubF.frz rfl rfl rfl rfl (Nat.le_of_eq (Nat.zero_add _)) rfl rfl (wJ_ceq)⟩
    clear D0
    rintro Q hQ ⟨s, W1, i⟩ ⟨hi, D⟩
    dsimp only at hi D
    dsimp only
    have S := D.r.small
    repeat' first | (with_reducible first | refine nI1 ?_ | refine nI2 ?_ | refine nI3 ?_ | exact ⟨⟩ | refine Both.mk (fun _ => ?_) fun _ => ?_ | refine Both2.mk (fun _ => ?_) ?_) | ((with_reducible refine Need.mk ?_ ?_; show CEq _ _); exact CEq.refl _) | (with_reducible refine Need.mk ?_ ?_; (first | omega | exact CEq.refl _ | (dsimp only [rng]; omega) | (rw [Int.toNat_natCast]; omega) | (simp only [addN_eq]; omega))) | ((with_reducible fail_if_success first | constructor | show False); conv => whnf)
    · rename_i g
      have g : i < left := by have := of_decide_eq_true g; omega
      refine CallVC.mk' (fun _ => pump_ok K s S) (fun _ => .cons ((.many fun j hj => by (rcases (show j = 0 ∨ j = 1 ∨ j = 2 ∨ j = 3 ∨ j = 4 ∨ j = 5 ∨ j = 6 ∨ j = 7 ∨ j = 8 by omega) with rfl | rfl | rfl | rfl | rfl | rfl | rfl | rfl | rfl <;> exact CEq.refl _))) .nil) ?_
      have D1 := (D.some g).1
      have ho := (D.some g).2
      generalize pumpS s = s2 at *
      repeat' first | (with_reducible first | refine nI1 ?_ | refine nI2 ?_ | refine nI3 ?_ | exact ⟨⟩ | refine Both.mk (fun _ => ?_) fun _ => ?_ | refine Both2.mk (fun _ => ?_) ?_) | ((with_reducible refine Need.mk ?_ ?_; show CEq _ _); exact CEq.refl _) | (with_reducible refine Need.mk ?_ ?_; (first | omega | exact CEq.refl _ | (dsimp only [rng]; omega) | (rw [Int.toNat_natCast]; omega) | (simp only [addN_eq]; omega))) | ((with_reducible fail_if_success first | constructor | show False); conv => whnf)
      refine CallVC.mk' (fun _ => done_ok K s2 ((0 : Nat) : Int) false D1.r.small) (fun _ => .cons ((.many fun j hj => by (rcases (show j = 0 ∨ j = 1 ∨ j = 2 ∨ j = 3 ∨ j = 4 ∨ j = 5 ∨ j = 6 ∨ j = 7 ∨ j = 8 by omega) with rfl | rfl | rfl | rfl | rfl | rfl | rfl | rfl | rfl <;> exact CEq.refl _))) (.cons (.one (CEq.refl _)) (.cons (.one (CEq.refl _)) .nil))) ?_
      obtain ⟨q, q1, q2, q3, q4, q5, q6, q7, q8⟩ := D1.told (by omega) ho
      rw [q3, q4]
      generalize (doneS s2 ((0 : Nat) : Int) false).1 = s3 at *
      generalize (doneS s2 ((0 : Nat) : Int) false).2.1 = j3 at *
      repeat' first | (with_reducible first | refine nI1 ?_ | refine nI2 ?_ | refine nI3 ?_ | exact ⟨⟩ | refine Both.mk (fun _ => ?_) fun _ => ?_ | refine Both2.mk (fun _ => ?_) ?_) | ((with_reducible refine Need.mk ?_ ?_; show CEq _ _); exact CEq.refl _) | (with_reducible refine Need.mk ?_ ?_; (first | omega | exact CEq.refl _ | (dsimp only [rng]; omega) | (rw [Int.toNat_natCast]; omega) | (simp only [addN_eq]; omega))) | ((with_reducible fail_if_success first | constructor | show False); conv => whnf)
      rw [q2, Int.toNat_natCast]
      refine Need.mk (fun _ => by omega) ?_
      repeat' first | (with_reducible first | refine nI1 ?_ | refine nI2 ?_ | refine nI3 ?_ | exact ⟨⟩ | refine Both.mk (fun _ => ?_) fun _ => ?_ | refine Both2.mk (fun _ => ?_) ?_) | ((with_reducible refine Need.mk ?_ ?_; show CEq _ _); exact CEq.refl _) | (with_reducible refine Need.mk ?_ ?_; (first | omega | exact CEq.refl _ | (dsimp only [rng]; omega) | (rw [Int.toNat_natCast]; omega) | (simp only [addN_eq]; omega))) | ((with_reducible fail_if_success first | constructor | show False); conv => whnf)
      · rename_i z
        exfalso
        clear hQ
        rw [Int.toNat_natCast, decide_eq_false (show ¬ (q : Int) < 0 by omega), decide_eq_false (show ¬ 1 < (q : Int) by omega), decide_eq_false (show ¬ ((W1 q).length : Int) = 0 by omega),
          decide_eq_true (show ((W1 q).getD (Int.toNat 0) default).kind = j3.kind from q6), decide_eq_true (show ((W1 q).getD (Int.toNat 0) default).page = j3.page from q7)] at z
        exact absurd z (by decide)
      · refine LoopEnd.mk ⟨(s3, dropJ W1 q, i + 1), ⟨g, q8⟩, by show left - (i + 1) < left - i; omega, ?_⟩
        clear hQ
        (refine Le.of ?_ ?_ <;> repeat' first | exact trivial | exact CEq.refl _ | exact rfl | exact cI (by push_cast; first | rfl | omega) | exact SubE.dat fun _ _ _ _ => CEq.refl _ | refine SubE.var2 ?_ ?_ | refine SubE.var1 ?_ | refine SubE.var3 ?_ ?_ ?_ | refine SubE.var4 ?_ ?_ ?_ ?_ | refine SubE.var5 ?_ ?_ ?_ ?_ ?_ | refine SubE.varN ?_ | refine Exists.intro _ (And.intro rfl ?_) | refine And.intro ?_ ?_)
        exact SubE.dat fun r hr k hk => by
          have hk : k < 1 := hk
          obtain rfl : k = 0 := by omega
          exact popJ (by rw [Int.toNat_natCast]) (by
            rw [Int.toNat_natCast]
            exact ((IsL.refl (size := 5) (enc := jbE) (l := W1 q)).drop (k := 1)).ceq (by rw [List.length_drop]; rfl))
    · rename_i g
      have g : i = left := by have := of_decide_eq_false g; omega
      subst g
      refine Out.mk (hQ _ _ ?_)
      clear hQ
      repeat' first | (with_reducible first | refine nI1 ?_ | refine nI2 ?_ | refine nI3 ?_ | exact ⟨⟩ | refine Both.mk (fun _ => ?_) fun _ => ?_ | refine Both2.mk (fun _ => ?_) ?_) | ((with_reducible refine Need.mk ?_ ?_; show CEq _ _); exact CEq.refl _) | (with_reducible refine Need.mk ?_ ?_; (first | omega | exact CEq.refl _ | (dsimp only [rng]; omega) | (rw [Int.toNat_natCast]; omega) | (simp only [addN_eq]; omega))) | ((with_reducible fail_if_success first | constructor | show False); conv => whnf)
      refine CallVC.mk' (fun _ => pump_ok K s S) (fun _ => .cons ((.many fun j hj => by (rcases (show j = 0 ∨ j = 1 ∨ j = 2 ∨ j = 3 ∨ j = 4 ∨ j = 5 ∨ j = 6 ∨ j = 7 ∨ j = 8 by omega) with rfl | rfl | rfl | rfl | rfl | rfl | rfl | rfl | rfl <;> exact CEq.refl _))) .nil) ?_
      have D1 := D.none.2
      generalize pumpS s = s2 at *
      repeat' first | (with_reducible first | refine nI1 ?_ | refine nI2 ?_ | refine nI3 ?_ | exact ⟨⟩ | refine Both.mk (fun _ => ?_) fun _ => ?_ | refine Both2.mk (fun _ => ?_) ?_) | ((with_reducible refine Need.mk ?_ ?_; show CEq _ _); exact CEq.refl _) | (with_reducible refine Need.mk ?_ ?_; (first | omega | exact CEq.refl _ | (dsimp only [rng]; omega) | (rw [Int.toNat_natCast]; omega) | (simp only [addN_eq]; omega))) | ((with_reducible fail_if_success first | constructor | show False); conv => whnf)
      refine CallVC.mk' (fun _ => awake_ok L) (fun _ => .nil) ?_
      rw [D1]
      repeat' first | (with_reducible first | refine nI1 ?_ | refine nI2 ?_ | refine nI3 ?_ | exact ⟨⟩ | refine Both.mk (fun _ => ?_) fun _ => ?_ | refine Both2.mk (fun _ => ?_) ?_) | ((with_reducible refine Need.mk ?_ ?_; show CEq _ _); exact CEq.refl _) | (with_reducible refine Need.mk ?_ ?_; (first | omega | exact CEq.refl _ | (dsimp only [rng]; omega) | (rw [Int.toNat_natCast]; omega) | (simp only [addN_eq]; omega))) | ((with_reducible fail_if_success first | constructor | show False); conv => whnf)
end
end Lk.S06
namespace Lk.S06
open Go Lk Lk.C Lk.S03 Lk.S04
structure Ac where
  kind : Int
  n : Int
  j : Jb
instance : Inhabited Ac := ⟨⟨0, 0, default⟩⟩
def acE (a : Ac) (j : Nat) : Cell :=
  match j with
  | 0 => .int .i64 a.kind
  | 1 => .int .i64 a.n
  | 2 => .int .i64 a.j.who
  | 3 => .int .i64 a.j.kind
  | 4 => .int .i64 a.j.page
  | 5 => .str a.j.data
  | _ => .int .i64 a.j.tries
def EAc : Enc Ac where
  sh := [.int .i64, .int .i64, .int .i64, .int .i64, .int .i64, .str, .int .i64]
  enc := acE
  wf x := x.j.data.length ≤ 9223372036854775807 ∧ (rng .i64 x.n ∧ rng .i64 x.kind) ∧ EJb.wf x.j
  dec g h := by
    obtain ⟨k, hk, r1⟩ := (h 0 _ rfl).intE
    obtain ⟨n, hn, r2⟩ := (h 1 _ rfl).intE
    obtain ⟨a, ha, r3⟩ := (h 2 _ rfl).intE
    obtain ⟨b, hb, _⟩ := (h 3 _ rfl).intE
    obtain ⟨c, hc, _⟩ := (h 4 _ rfl).intE
    obtain ⟨s, hs, hl⟩ := (h 5 _ rfl).strE
    obtain ⟨e, he, r4⟩ := (h 6 _ rfl).intE
    refine ⟨⟨k, n, ⟨a, b, c, s, e⟩⟩, ⟨hl, ⟨r2, r1⟩, hl, r3, r4⟩, fun j hj => ?_⟩
    have hj : j < 7 := hj
    rcases (show j = 0 ∨ j = 1 ∨ j = 2 ∨ j = 3 ∨ j = 4 ∨ j = 5 ∨ j = 6 by omega) with rfl | rfl | rfl | rfl | rfl | rfl | rfl
    · rw [hk]; exact CEq.refl _
    · rw [hn]; exact CEq.refl _
    · rw [ha]; exact CEq.refl _
    · rw [hb]; exact CEq.refl _
    · rw [hc]; exact CEq.refl _
    · rw [hs]; exact CEq.refl _
    · rw [he]; exact CEq.refl _
/-- How it stands behind i acts. -/
structure ON (i a t : Nat) (s : Sd) : Prop where
  r : rightS s
  n : s.dev.next ≤ 4 * i
  e : a = t + (s.out.length + wtg s.jobs)
  a : a ≤ i
variable {i a t : Nat} {s : Sd}
theorem ON.ask (h : ON i a t s) (x : Jb) : ON (i + 1) (a + (if (askS s x).2 = 0 then 1 else 0)) t (askS s x).1 := by
  obtain ⟨f1, f2, f3, f4, f5⟩ := ask_fx (s := s) (x := x)
  have := h.e
  have := h.a
  have := h.n
  exact ⟨ask_right h.r, by rw [f2]; omega, by rw [f1, f3]; omega, by split <;> omega⟩
theorem ON.pump (h : ON i a t s) : ON (i + 1) a t (pumpS s) := by
  obtain ⟨f1, f2, f3, f4⟩ := pump_fx h.r
  have := h.e
  have := h.a
  have := h.n
  exact ⟨pump_right h.r, by omega, by omega, by omega⟩
theorem ON.done (h : ON i a t s) (n : Int) (f : Bool) : ON (i + 1) a (t + (if (doneS s n f).2.2.2 = true then 1 else 0)) (doneS s n f).1 := by
  obtain ⟨f1, f2, f3, f4, f5⟩ := done_fx (i := n) (f := f) h.r
  have := h.e
  have := h.a
  have := h.n
  exact ⟨done_right h.r, by omega, by rw [f1]; omega, by omega⟩
theorem ON.skip (h : ON i a t s) : ON (i + 1) a t s := ⟨h.r, by have := h.n; omega, h.e, by have := h.a; omega⟩
def p0 : Sd := (newS v0 [1, 3]).1
theorem p0r : rightS p0 := by decide +kernel
theorem p0n : p0.dev.next = 0 ∧ p0.out.length = 0 ∧ wtg p0.jobs = 0 := by decide +kernel
theorem ON.zero : ON 0 0 0 p0 := ⟨p0r, by rw [p0n.1]; decide, by rw [p0n.2.1, p0n.2.2], Nat.le_refl _⟩
section
variable {P : Program} {F : Nat → Nat}
end
end Lk.S06
