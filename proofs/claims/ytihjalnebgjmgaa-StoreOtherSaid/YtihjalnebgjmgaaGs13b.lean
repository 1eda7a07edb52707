/-
  Gs13b: what these chapters need.
-/
import Derived.Test.YtihjalnebgjmgaaGs13a
set_option linter.unusedSimpArgs false
set_option linter.unusedVariables false
namespace Lk.S13
open Go Lk Lk.C Lk.S03 Lk.S12
section
variable {P : Program} {F : Nat → Nat}
set_option maxHeartbeats 8000000 in
set_option maxRecDepth 100000 in
theorem storeKeeps_law (K : K13 P F) (R : S02.KRef P F) (hk : law13_StoreKeeps_k P F) (acts : List Pg) (ha : acts.length ≤ 9223372036854775807) (hal : ∀ p ∈ acts, p.body.length ≤ 9223372036854775807) :
    FnOk P (F 137) [.one (slL 3 pgE acts)] [.one (.im (.bool true))] := by
  refine fnOk K.s.j.k.m hk ?_
  repeat' first
    | (with_reducible first | refine NeedI.mk (fun h => h) ?_ | refine NeedI.mk (fun h => h.2) ?_ | refine NeedI.mk (fun h => h.1) ?_ | exact Done.mk | refine Both.mk (fun _ => ?_) (fun _ => ?_) | refine Both2.mk (fun _ => ?_) ?_ | refine Need.mk (by first | omega | with_reducible exact CEq.refl _ | (dsimp only; omega) | (dsimp only [rng]; omega) | (simp only [decide_eq_true_eq, decide_eq_false_iff_not, Bool.or_eq_true, Bool.and_eq_true, Bool.or_eq_false_iff, Int.toNat_natCast, addN_eq, cond_false, cond_true, rng] at *; omega) | exact ⟨rfl, rfl⟩) ?_)
    | ((with_reducible refine Need.mk ?_ ?_); exact CEq.refl _)
    | ((with_reducible fail_if_success first | refine LoopVC.mk ?_ | refine Need.mk ?_ ?_ | refine CallVC.mk ?_ | refine LoopEnd.mk ?_ | refine Out.mk ?_ | show False | refine NeedI.mk ?_ ?_); conv => whnf)
  refine CallVC.mk' (fun _ => new_ok K.s.j.k.m K.s.j.k.new 35 K.s.j.k.rep) (fun _ => .cons (.one (CEq.refl _)) .nil) ?_
  rw [D35_new, D35_newE]
  repeat' first
    | (with_reducible first | refine NeedI.mk (fun h => h) ?_ | refine NeedI.mk (fun h => h.2) ?_ | refine NeedI.mk (fun h => h.1) ?_ | exact Done.mk | refine Both.mk (fun _ => ?_) (fun _ => ?_) | refine Both2.mk (fun _ => ?_) ?_ | refine Need.mk (by first | omega | with_reducible exact CEq.refl _ | (dsimp only; omega) | (dsimp only [rng]; omega) | (simp only [decide_eq_true_eq, decide_eq_false_iff_not, Bool.or_eq_true, Bool.and_eq_true, Bool.or_eq_false_iff, Int.toNat_natCast, addN_eq, cond_false, cond_true, rng] at *; omega) | exact ⟨rfl, rfl⟩) ?_)
    | ((with_reducible refine Need.mk ?_ ?_); exact CEq.refl _)
    | ((with_reducible fail_if_success first | refine LoopVC.mk ?_ | refine Need.mk ?_ ?_ | refine CallVC.mk ?_ | refine LoopEnd.mk ?_ | refine Out.mk ?_ | show False | refine NeedI.mk ?_ ?_); conv => whnf)
  refine LoopVC.inv (X := Nat × Dsk × List Pg) (fun x => x.1 ≤ 40 ∧ x.1 ≤ acts.length ∧ Keep x.2.1 x.2.2)
    (fun x => stL [(0, .c (slL 3 pgE acts)), (3, .va 3 0 0), (5, .ra 5 0 3 0 0), (6, .c (.int .i64 x.1))]
      [(3, vE [.c (slL 1 strE x.2.1.secs), .c (slL 2 wrE x.2.1.cache)]), (5, ⟨3, 17, .dat fun r j => pgE (x.2.2.getD r default) j, false, true⟩)]) (fun x => 40 - x.1) ⟨0, D35, List.replicate 17 default⟩ ⟨by decide, Nat.zero_le _, Keep.start⟩ ?_ ?_
  · (refine Le.of ?_ ?_ <;> repeat' first | exact trivial | exact CEq.refl _ | exact rfl | exact cI (by push_cast; first | rfl | omega) | exact SubE.dat fun _ _ _ _ => CEq.refl _ | refine SubE.var2 ?_ ?_ | refine SubE.var1 ?_ | refine SubE.var3 ?_ ?_ ?_ | refine SubE.var4 ?_ ?_ ?_ ?_ | refine SubE.var5 ?_ ?_ ?_ ?_ ?_ | refine Exists.intro _ (And.intro rfl ?_) | refine And.intro ?_ ?_)
    exact ⟨rfl, rfl, id, id, fun i hi j hj => by
      have hi : i < 17 := hi
      have e : (List.replicate 17 (default : Pg)).getD i default = default := by rw [getD_eq (by simp; omega)]; exact List.getElem_replicate ..
      show SubV _ _ (.c (pgE ((List.replicate 17 (default : Pg)).getD i default) j))
      rw [e]
      have hj : j < 3 := hj
      rcases (show j = 0 ∨ j = 1 ∨ j = 2 by omega) with rfl | rfl | rfl <;> exact CEq.refl _⟩
  rintro Q hQ ⟨i, d, want⟩ ⟨hi, hip, I⟩
  have hi : i ≤ 40 := hi
  have hip : i ≤ acts.length := hip
  have I : Keep d want := I
  dsimp only
  repeat' first
    | (with_reducible first | refine NeedI.mk (fun h => h) ?_ | refine NeedI.mk (fun h => h.2) ?_ | refine NeedI.mk (fun h => h.1) ?_ | exact Done.mk | refine Both.mk (fun _ => ?_) (fun _ => ?_) | refine Both2.mk (fun _ => ?_) ?_ | refine Need.mk (by first | omega | with_reducible exact CEq.refl _ | (dsimp only; omega) | (dsimp only [rng]; omega) | (simp only [decide_eq_true_eq, decide_eq_false_iff_not, Bool.or_eq_true, Bool.and_eq_true, Bool.or_eq_false_iff, Int.toNat_natCast, addN_eq, cond_false, cond_true, rng] at *; omega) | exact ⟨rfl, rfl⟩) ?_)
    | ((with_reducible refine Need.mk ?_ ?_); exact CEq.refl _)
    | ((with_reducible fail_if_success first | refine LoopVC.mk ?_ | refine Need.mk ?_ ?_ | refine CallVC.mk ?_ | refine LoopEnd.mk ?_ | refine Out.mk ?_ | show False | refine NeedI.mk ?_ ?_); conv => whnf)
  · refine CallVC.mk' (fun _ => awake_ok K) (fun _ => .nil) ?_
    repeat' first
      | (with_reducible first | refine NeedI.mk (fun h => h) ?_ | refine NeedI.mk (fun h => h.2) ?_ | refine NeedI.mk (fun h => h.1) ?_ | exact Done.mk | refine Both.mk (fun _ => ?_) (fun _ => ?_) | refine Both2.mk (fun _ => ?_) ?_ | refine Need.mk (by first | omega | with_reducible exact CEq.refl _ | (dsimp only; omega) | (dsimp only [rng]; omega) | (simp only [decide_eq_true_eq, decide_eq_false_iff_not, Bool.or_eq_true, Bool.and_eq_true, Bool.or_eq_false_iff, Int.toNat_natCast, addN_eq, cond_false, cond_true, rng] at *; omega) | exact ⟨rfl, rfl⟩) ?_)
      | ((with_reducible refine Need.mk ?_ ?_); exact CEq.refl _)
      | ((with_reducible fail_if_success first | refine LoopVC.mk ?_ | refine Need.mk ?_ ?_ | refine CallVC.mk ?_ | refine LoopEnd.mk ?_ | refine Out.mk ?_ | show False | refine NeedI.mk ?_ ?_); conv => whnf)
    refine Out.mk (hQ _ _ ?_)
    repeat' first
      | (with_reducible first | refine NeedI.mk (fun h => h) ?_ | refine NeedI.mk (fun h => h.2) ?_ | refine NeedI.mk (fun h => h.1) ?_ | exact Done.mk | refine Both.mk (fun _ => ?_) (fun _ => ?_) | refine Both2.mk (fun _ => ?_) ?_ | refine Need.mk (by first | omega | with_reducible exact CEq.refl _ | (dsimp only; omega) | (dsimp only [rng]; omega) | (simp only [decide_eq_true_eq, decide_eq_false_iff_not, Bool.or_eq_true, Bool.and_eq_true, Bool.or_eq_false_iff, Int.toNat_natCast, addN_eq, cond_false, cond_true, rng] at *; omega) | exact ⟨rfl, rfl⟩) ?_)
      | ((with_reducible refine Need.mk ?_ ?_); exact CEq.refl _)
      | ((with_reducible fail_if_success first | refine LoopVC.mk ?_ | refine Need.mk ?_ ?_ | refine CallVC.mk ?_ | refine LoopEnd.mk ?_ | refine Out.mk ?_ | show False | refine NeedI.mk ?_ ?_); conv => whnf)
  · rename_i h3 h4
    simp only [Bool.and_eq_true, decide_eq_true_eq, Int.toNat_natCast] at h3
    have hbl := hal _ (getD_mem (show i < acts.length by omega))
    have h4 : valid (acts.getD i default).id := by
      simp only [Bool.or_eq_false_iff, decide_eq_false_iff_not, Int.toNat_natCast] at h4
      unfold valid; omega
    generalize hp : acts.getD i default = p at *
    have hp' : acts.getD (i : Int).toNat default = p := hp
    obtain ⟨v1, v2⟩ := (show 1 ≤ p.id ∧ p.id ≤ 16 from h4)
    obtain ⟨n, hn⟩ : ∃ n : Nat, p.id = n := ⟨p.id.toNat, by omega⟩
    rw [hp']
    refine CallVC.mk' (fun _ => S02.rright_ok R.m R.right p hbl) (fun _ => .cons ((.many fun j hj => by (rcases (show j = 0 ∨ j = 1 ∨ j = 2 by omega) with rfl | rfl | rfl <;> exact CEq.refl _))) .nil) ?_
    repeat' first
      | (with_reducible first | refine NeedI.mk (fun h => h) ?_ | refine NeedI.mk (fun h => h.2) ?_ | refine NeedI.mk (fun h => h.1) ?_ | exact Done.mk | refine Both.mk (fun _ => ?_) (fun _ => ?_) | refine Both2.mk (fun _ => ?_) ?_ | refine Need.mk (by first | omega | with_reducible exact CEq.refl _ | (dsimp only; omega) | (dsimp only [rng]; omega) | (simp only [decide_eq_true_eq, decide_eq_false_iff_not, Bool.or_eq_true, Bool.and_eq_true, Bool.or_eq_false_iff, Int.toNat_natCast, addN_eq, cond_false, cond_true, rng] at *; omega) | exact ⟨rfl, rfl⟩) ?_)
      | ((with_reducible refine Need.mk ?_ ?_); exact CEq.refl _)
      | ((with_reducible fail_if_success first | refine LoopVC.mk ?_ | refine Need.mk ?_ ?_ | refine CallVC.mk ?_ | refine LoopEnd.mk ?_ | refine Out.mk ?_ | show False | refine NeedI.mk ?_ ?_); conv => whnf)
    · rename_i h5
      refine CallVC.mk' (fun _ => sdel_ok K.s d p.id I.c.small) (fun _ => .cons ((.many fun j hj => by (rcases (show j = 0 ∨ j = 1 by omega) with rfl | rfl <;> exact CEq.refl _))) (.cons (.one (CEq.refl _)) .nil)) ?_
      have I2 := I.del (n := n) (by rw [← hn]; exact h4)
      have e0 := (del_cal I.c h4).2.1
      rw [e0, hn]
      generalize hw : want.set n default = w2 at I2
      generalize commitD d n zs32 = d2 at *
      repeat' first
        | (with_reducible first | refine NeedI.mk (fun h => h) ?_ | refine NeedI.mk (fun h => h.2) ?_ | refine NeedI.mk (fun h => h.1) ?_ | exact Done.mk | refine Both.mk (fun _ => ?_) (fun _ => ?_) | refine Both2.mk (fun _ => ?_) ?_ | refine Need.mk (by first | omega | with_reducible exact CEq.refl _ | (dsimp only; omega) | (dsimp only [rng]; omega) | (simp only [decide_eq_true_eq, decide_eq_false_iff_not, Bool.or_eq_true, Bool.and_eq_true, Bool.or_eq_false_iff, Int.toNat_natCast, addN_eq, cond_false, cond_true, rng] at *; omega) | exact ⟨rfl, rfl⟩) ?_)
        | ((with_reducible refine Need.mk ?_ ?_); exact CEq.refl _)
        | ((with_reducible fail_if_success first | refine LoopVC.mk ?_ | refine Need.mk ?_ ?_ | refine CallVC.mk ?_ | refine LoopEnd.mk ?_ | refine Out.mk ?_ | show False | refine NeedI.mk ?_ ?_); conv => whnf)
      · rename_i h; exfalso; simp at h
      · skip
        refine LoopEnd.mk ⟨(i + 1, d2, w2), ⟨by dsimp only; omega, by dsimp only; omega, I2⟩, by dsimp only; omega, ?_⟩
        (refine Le.of ?_ ?_ <;> repeat' first | exact trivial | exact CEq.refl _ | exact rfl | exact cI (by push_cast; first | rfl | omega) | exact SubE.dat fun _ _ _ _ => CEq.refl _ | refine SubE.var2 ?_ ?_ | refine SubE.var1 ?_ | refine SubE.var3 ?_ ?_ ?_ | refine SubE.var4 ?_ ?_ ?_ ?_ | refine SubE.var5 ?_ ?_ ?_ ?_ ?_ | refine Exists.intro _ (And.intro rfl ?_) | refine And.intro ?_ ?_)
        subst hw
        exact (IsL.refl.upd3 (CEq.refl _) (CEq.refl _) (CEq.refl _)).sub I2.n.symm
    · rename_i h5
      have h5 : S02.right p := by simpa using h5
      refine CallVC.mk' (fun _ => sset_ok K.s d p I.c.small hbl) (fun _ => .cons ((.many fun j hj => by (rcases (show j = 0 ∨ j = 1 by omega) with rfl | rfl <;> exact CEq.refl _))) (.cons ((.many fun j hj => by (rcases (show j = 0 ∨ j = 1 ∨ j = 2 by omega) with rfl | rfl | rfl <;> exact CEq.refl _))) .nil)) ?_
      have I2 := I.set h5 hn
      have e0 := (set_cal I.c h5).2.1
      rw [e0]
      have hnn : p.id.toNat = n := by rw [hn]; exact Int.toNat_natCast n
      rw [← hnn] at I2
      generalize hw : want.set p.id.toNat p = w2 at I2
      generalize sset d p = d2 at *
      repeat' first
        | (with_reducible first | refine NeedI.mk (fun h => h) ?_ | refine NeedI.mk (fun h => h.2) ?_ | refine NeedI.mk (fun h => h.1) ?_ | exact Done.mk | refine Both.mk (fun _ => ?_) (fun _ => ?_) | refine Both2.mk (fun _ => ?_) ?_ | refine Need.mk (by first | omega | with_reducible exact CEq.refl _ | (dsimp only; omega) | (dsimp only [rng]; omega) | (simp only [decide_eq_true_eq, decide_eq_false_iff_not, Bool.or_eq_true, Bool.and_eq_true, Bool.or_eq_false_iff, Int.toNat_natCast, addN_eq, cond_false, cond_true, rng] at *; omega) | exact ⟨rfl, rfl⟩) ?_)
        | ((with_reducible refine Need.mk ?_ ?_); exact CEq.refl _)
        | ((with_reducible fail_if_success first | refine LoopVC.mk ?_ | refine Need.mk ?_ ?_ | refine CallVC.mk ?_ | refine LoopEnd.mk ?_ | refine Out.mk ?_ | show False | refine NeedI.mk ?_ ?_); conv => whnf)
      · rename_i h; exfalso; simp at h
      · skip
        refine LoopEnd.mk ⟨(i + 1, d2, w2), ⟨by dsimp only; omega, by dsimp only; omega, I2⟩, by dsimp only; omega, ?_⟩
        (refine Le.of ?_ ?_ <;> repeat' first | exact trivial | exact CEq.refl _ | exact rfl | exact cI (by push_cast; first | rfl | omega) | exact SubE.dat fun _ _ _ _ => CEq.refl _ | refine SubE.var2 ?_ ?_ | refine SubE.var1 ?_ | refine SubE.var3 ?_ ?_ ?_ | refine SubE.var4 ?_ ?_ ?_ ?_ | refine SubE.var5 ?_ ?_ ?_ ?_ ?_ | refine Exists.intro _ (And.intro rfl ?_) | refine And.intro ?_ ?_)
        subst hw
        exact (IsL.refl.upd3 (CEq.refl _) (CEq.refl _) (CEq.refl _)).sub I2.n.symm
  · rename_i h3
    refine Out.mk (hQ _ _ ?_)
    repeat' first
      | (with_reducible first | refine NeedI.mk (fun h => h) ?_ | refine NeedI.mk (fun h => h.2) ?_ | refine NeedI.mk (fun h => h.1) ?_ | exact Done.mk | refine Both.mk (fun _ => ?_) (fun _ => ?_) | refine Both2.mk (fun _ => ?_) ?_ | refine Need.mk (by first | omega | with_reducible exact CEq.refl _ | (dsimp only; omega) | (dsimp only [rng]; omega) | (simp only [decide_eq_true_eq, decide_eq_false_iff_not, Bool.or_eq_true, Bool.and_eq_true, Bool.or_eq_false_iff, Int.toNat_natCast, addN_eq, cond_false, cond_true, rng] at *; omega) | exact ⟨rfl, rfl⟩) ?_)
      | ((with_reducible refine Need.mk ?_ ?_); exact CEq.refl _)
      | ((with_reducible fail_if_success first | refine LoopVC.mk ?_ | refine Need.mk ?_ ?_ | refine CallVC.mk ?_ | refine LoopEnd.mk ?_ | refine Out.mk ?_ | show False | refine NeedI.mk ?_ ?_); conv => whnf)
    refine LoopVC.inv (fun i : Nat => i ≤ 16) (fun i => stL [(3, .va 3 0 0), (5, .ra 5 0 3 0 0), (12, .c (.int .i64 (i + 1)))]
      [(3, vE [.c (slL 1 strE d.secs), .c (slL 2 wrE d.cache)]), (5, ⟨3, 17, .dat fun r j => pgE (want.getD r default) j, false, true⟩)]) (fun i => 16 - i) 0 (Nat.zero_le _) ?_ ?_
    · (refine Le.of ?_ ?_ <;> repeat' first | exact trivial | exact CEq.refl _ | exact rfl | exact cI (by push_cast; first | rfl | omega) | exact SubE.dat fun _ _ _ _ => CEq.refl _ | refine SubE.var2 ?_ ?_ | refine SubE.var1 ?_ | refine SubE.var3 ?_ ?_ ?_ | refine SubE.var4 ?_ ?_ ?_ ?_ | refine SubE.var5 ?_ ?_ ?_ ?_ ?_ | refine Exists.intro _ (And.intro rfl ?_) | refine And.intro ?_ ?_)
    rintro Q2 hQ2 k hk2
    repeat' first
      | (with_reducible first | refine NeedI.mk (fun h => h) ?_ | refine NeedI.mk (fun h => h.2) ?_ | refine NeedI.mk (fun h => h.1) ?_ | exact Done.mk | refine Both.mk (fun _ => ?_) (fun _ => ?_) | refine Both2.mk (fun _ => ?_) ?_ | refine Need.mk (by first | omega | with_reducible exact CEq.refl _ | (dsimp only; omega) | (dsimp only [rng]; omega) | (simp only [decide_eq_true_eq, decide_eq_false_iff_not, Bool.or_eq_true, Bool.and_eq_true, Bool.or_eq_false_iff, Int.toNat_natCast, addN_eq, cond_false, cond_true, rng] at *; omega) | exact ⟨rfl, rfl⟩) ?_)
      | ((with_reducible refine Need.mk ?_ ?_); exact CEq.refl _)
      | ((with_reducible fail_if_success first | refine LoopVC.mk ?_ | refine Need.mk ?_ ?_ | refine CallVC.mk ?_ | refine LoopEnd.mk ?_ | refine Out.mk ?_ | show False | refine NeedI.mk ?_ ?_); conv => whnf)
    · rename_i h4
      have h4 : ((k : Int) + 1) ≤ 16 := of_decide_eq_true h4
      refine CallVC.mk' (fun _ => sget_ok K.s d ((k + 1 : Nat) : Int) I.c.small) (fun _ => .cons ((.many fun j hj => by (rcases (show j = 0 ∨ j = 1 by omega) with rfl | rfl <;> exact CEq.refl _))) (.cons (.one (eI (by push_cast; rfl))) .nil)) ?_
      have hg := I.g (k + 1) (by omega) (by omega)
      generalize sget d ((k + 1 : Nat) : Int) = g at *
      have ek : ((k : Int) + 1).toNat = k + 1 := by omega
      repeat' first
        | (with_reducible first | refine NeedI.mk (fun h => h) ?_ | refine NeedI.mk (fun h => h.2) ?_ | refine NeedI.mk (fun h => h.1) ?_ | exact Done.mk | refine Both.mk (fun _ => ?_) (fun _ => ?_) | refine Both2.mk (fun _ => ?_) ?_ | refine Need.mk (by first | omega | with_reducible exact CEq.refl _ | (dsimp only; omega) | (dsimp only [rng]; omega) | (simp only [decide_eq_true_eq, decide_eq_false_iff_not, Bool.or_eq_true, Bool.and_eq_true, Bool.or_eq_false_iff, Int.toNat_natCast, addN_eq, cond_false, cond_true, rng] at *; omega) | exact ⟨rfl, rfl⟩) ?_)
        | ((with_reducible refine Need.mk ?_ ?_); exact CEq.refl _)
        | ((with_reducible fail_if_success first | refine LoopVC.mk ?_ | refine Need.mk ?_ ?_ | refine CallVC.mk ?_ | refine LoopEnd.mk ?_ | refine Out.mk ?_ | show False | refine NeedI.mk ?_ ?_); conv => whnf)
      · rename_i h5
        exfalso
        rw [ek] at h5
        rcases hg with ⟨h6, rfl⟩ | ⟨h6, rfl⟩
        · revert h6 h5; generalize want.getD (k + 1) default = w; intro h6 h5; simp [h6] at h5
        · rw [h6] at h5; revert h5; decide
      · skip
        refine LoopEnd.mk ⟨k + 1, by omega, by omega, ?_⟩
        (refine Le.of ?_ ?_ <;> repeat' first | exact trivial | exact CEq.refl _ | exact rfl | exact cI (by push_cast; first | rfl | omega) | exact SubE.dat fun _ _ _ _ => CEq.refl _ | refine SubE.var2 ?_ ?_ | refine SubE.var1 ?_ | refine SubE.var3 ?_ ?_ ?_ | refine SubE.var4 ?_ ?_ ?_ ?_ | refine SubE.var5 ?_ ?_ ?_ ?_ ?_ | refine Exists.intro _ (And.intro rfl ?_) | refine And.intro ?_ ?_)
    · skip
      refine Out.mk (hQ2 _ _ ?_)
      rw [I.c.c]
      repeat' first
        | (with_reducible first | refine NeedI.mk (fun h => h) ?_ | refine NeedI.mk (fun h => h.2) ?_ | refine NeedI.mk (fun h => h.1) ?_ | exact Done.mk | refine Both.mk (fun _ => ?_) (fun _ => ?_) | refine Both2.mk (fun _ => ?_) ?_ | refine Need.mk (by first | omega | with_reducible exact CEq.refl _ | (dsimp only; omega) | (dsimp only [rng]; omega) | (simp only [decide_eq_true_eq, decide_eq_false_iff_not, Bool.or_eq_true, Bool.and_eq_true, Bool.or_eq_false_iff, Int.toNat_natCast, addN_eq, cond_false, cond_true, rng] at *; omega) | exact ⟨rfl, rfl⟩) ?_)
        | ((with_reducible refine Need.mk ?_ ?_); exact CEq.refl _)
        | ((with_reducible fail_if_success first | refine LoopVC.mk ?_ | refine Need.mk ?_ ?_ | refine CallVC.mk ?_ | refine LoopEnd.mk ?_ | refine Out.mk ?_ | show False | refine NeedI.mk ?_ ?_); conv => whnf)
      refine CallVC.mk' (fun _ => awake_ok K) (fun _ => .nil) ?_
      repeat' first
        | (with_reducible first | refine NeedI.mk (fun h => h) ?_ | refine NeedI.mk (fun h => h.2) ?_ | refine NeedI.mk (fun h => h.1) ?_ | exact Done.mk | refine Both.mk (fun _ => ?_) (fun _ => ?_) | refine Both2.mk (fun _ => ?_) ?_ | refine Need.mk (by first | omega | with_reducible exact CEq.refl _ | (dsimp only; omega) | (dsimp only [rng]; omega) | (simp only [decide_eq_true_eq, decide_eq_false_iff_not, Bool.or_eq_true, Bool.and_eq_true, Bool.or_eq_false_iff, Int.toNat_natCast, addN_eq, cond_false, cond_true, rng] at *; omega) | exact ⟨rfl, rfl⟩) ?_)
        | ((with_reducible refine Need.mk ?_ ?_); exact CEq.refl _)
        | ((with_reducible fail_if_success first | refine LoopVC.mk ?_ | refine Need.mk ?_ ?_ | refine CallVC.mk ?_ | refine LoopEnd.mk ?_ | refine Out.mk ?_ | show False | refine NeedI.mk ?_ ?_); conv => whnf)
end
end Lk.S13
namespace Lk.S13
open Go Lk Lk.C Lk.S03 Lk.S12
theorem pgc {p q : Pg} : (decide (p.id = q.id) && (decide (p.version = q.version) && decide (p.body = q.body))) = decide (p = q) := S02.pg_eq
/-- What is asked of a page that is set or deleted. -/
theorem other_set {d : Dsk} {p : Pg} (h : Cal d) : Cal (sset d p) ∧ ∀ q : Nat, 1 ≤ q → q ≤ 16 → sget (sset d p) q = if (q : Int) = p.id ∧ ssetE d p = 0 then (p, 0) else sget d q := by
  by_cases hr : S02.right p
  · obtain ⟨a, b, c⟩ := set_cal h hr
    refine ⟨a, fun q q1 q2 => ?_⟩
    rw [c q q1 q2, b]
    by_cases e : (q : Int) = p.id
    · rw [if_pos e, if_pos ⟨e, rfl⟩]
    · rw [if_neg e, if_neg (fun x => e x.1)]
  · obtain ⟨a, b⟩ := set_not (d := d) (p := p) fun x => hr x.2
    rw [a, b]
    exact ⟨h, fun q q1 q2 => by rw [if_neg (fun x => absurd x.2 (by decide))]⟩
theorem other_del {d : Dsk} {k : Int} (h : Cal d) : Cal (commitD d k zs32) ∧ ∀ q : Nat, 1 ≤ q → q ≤ 16 → sget (commitD d k zs32) q = if (q : Int) = k ∧ planE d k zs32 = 0 then (default, 3) else sget d q := by
  by_cases hr : valid k
  · obtain ⟨a, b, c⟩ := del_cal h hr
    refine ⟨a, fun q q1 q2 => ?_⟩
    rw [c q q1 q2, b]
    by_cases e : (q : Int) = k
    · rw [if_pos e, if_pos ⟨e, rfl⟩]
    · rw [if_neg e, if_neg (fun x => e x.1)]
  · obtain ⟨a, b⟩ := del_not (d := d) (k := k) fun x => hr x.2
    rw [a, b]
    exact ⟨h, fun q q1 q2 => by rw [if_neg (fun x => absurd x.2 (by decide))]⟩
section
variable {P : Program} {F : Nat → Nat}
set_option maxHeartbeats 8000000 in
set_option maxRecDepth 100000 in
theorem storeOther_law (K : K13 P F) (R : KR12 P F) (hk : law13_StoreOther_k P F) (d : Dsk) (p : Pg) (gone : Bool) (W : EDsk.wf d) (hpl : p.body.length ≤ 9223372036854775807) :
    FnOk P (F 138) [.many 2 (dskE d), .many 3 (pgE p), .one (.bool gone)] [.one (.im (.bool true))] := by
  refine fnOk K.s.j.k.m hk ?_
  repeat' first
    | (with_reducible first | refine NeedI.mk (fun h => h) ?_ | refine NeedI.mk (fun h => h.2) ?_ | refine NeedI.mk (fun h => h.1) ?_ | exact Done.mk | refine Both.mk (fun _ => ?_) (fun _ => ?_) | refine Both2.mk (fun _ => ?_) ?_ | refine Need.mk (by first | omega | with_reducible exact CEq.refl _ | (dsimp only; omega) | (dsimp only [rng]; omega) | (simp only [decide_eq_true_eq, decide_eq_false_iff_not, Bool.or_eq_true, Bool.and_eq_true, Bool.or_eq_false_iff, Int.toNat_natCast, addN_eq, cond_false, cond_true, rng] at *; omega) | exact ⟨rfl, rfl⟩) ?_)
    | ((with_reducible refine Need.mk ?_ ?_); exact CEq.refl _)
    | ((with_reducible fail_if_success first | refine LoopVC.mk ?_ | refine Need.mk ?_ ?_ | refine CallVC.mk ?_ | refine LoopEnd.mk ?_ | refine Out.mk ?_ | show False | refine NeedI.mk ?_ ?_); conv => whnf)
  refine CallVC.mk' (fun _ => small_ok R.r d W) (fun _ => .cons ((.many fun j hj => by (rcases (show j = 0 ∨ j = 1 by omega) with rfl | rfl <;> exact CEq.refl _))) .nil) ?_
  repeat' first
    | (with_reducible first | refine NeedI.mk (fun h => h) ?_ | refine NeedI.mk (fun h => h.2) ?_ | refine NeedI.mk (fun h => h.1) ?_ | exact Done.mk | refine Both.mk (fun _ => ?_) (fun _ => ?_) | refine Both2.mk (fun _ => ?_) ?_ | refine Need.mk (by first | omega | with_reducible exact CEq.refl _ | (dsimp only; omega) | (dsimp only [rng]; omega) | (simp only [decide_eq_true_eq, decide_eq_false_iff_not, Bool.or_eq_true, Bool.and_eq_true, Bool.or_eq_false_iff, Int.toNat_natCast, addN_eq, cond_false, cond_true, rng] at *; omega) | exact ⟨rfl, rfl⟩) ?_)
    | ((with_reducible refine Need.mk ?_ ?_); exact CEq.refl _)
    | ((with_reducible fail_if_success first | refine LoopVC.mk ?_ | refine Need.mk ?_ ?_ | refine CallVC.mk ?_ | refine LoopEnd.mk ?_ | refine Out.mk ?_ | show False | refine NeedI.mk ?_ ?_); conv => whnf)
  refine CallVC.mk' (fun _ => may_ok R d W) (fun _ => .cons ((.many fun j hj => by (rcases (show j = 0 ∨ j = 1 by omega) with rfl | rfl <;> exact CEq.refl _))) .nil) ?_
  repeat' first
    | (with_reducible first | refine NeedI.mk (fun h => h) ?_ | refine NeedI.mk (fun h => h.2) ?_ | refine NeedI.mk (fun h => h.1) ?_ | exact Done.mk | refine Both.mk (fun _ => ?_) (fun _ => ?_) | refine Both2.mk (fun _ => ?_) ?_ | refine Need.mk (by first | omega | with_reducible exact CEq.refl _ | (dsimp only; omega) | (dsimp only [rng]; omega) | (simp only [decide_eq_true_eq, decide_eq_false_iff_not, Bool.or_eq_true, Bool.and_eq_true, Bool.or_eq_false_iff, Int.toNat_natCast, addN_eq, cond_false, cond_true, rng] at *; omega) | exact ⟨rfl, rfl⟩) ?_)
    | ((with_reducible refine Need.mk ?_ ?_); exact CEq.refl _)
    | ((with_reducible fail_if_success first | refine LoopVC.mk ?_ | refine Need.mk ?_ ?_ | refine CallVC.mk ?_ | refine LoopEnd.mk ?_ | refine Out.mk ?_ | show False | refine NeedI.mk ?_ ?_); conv => whnf)
  · refine CallVC.mk' (fun _ => awake_ok K) (fun _ => .nil) ?_
    repeat' first
      | (with_reducible first | refine NeedI.mk (fun h => h) ?_ | refine NeedI.mk (fun h => h.2) ?_ | refine NeedI.mk (fun h => h.1) ?_ | exact Done.mk | refine Both.mk (fun _ => ?_) (fun _ => ?_) | refine Both2.mk (fun _ => ?_) ?_ | refine Need.mk (by first | omega | with_reducible exact CEq.refl _ | (dsimp only; omega) | (dsimp only [rng]; omega) | (simp only [decide_eq_true_eq, decide_eq_false_iff_not, Bool.or_eq_true, Bool.and_eq_true, Bool.or_eq_false_iff, Int.toNat_natCast, addN_eq, cond_false, cond_true, rng] at *; omega) | exact ⟨rfl, rfl⟩) ?_)
      | ((with_reducible refine Need.mk ?_ ?_); exact CEq.refl _)
      | ((with_reducible fail_if_success first | refine LoopVC.mk ?_ | refine Need.mk ?_ ?_ | refine CallVC.mk ?_ | refine LoopEnd.mk ?_ | refine Out.mk ?_ | show False | refine NeedI.mk ?_ ?_); conv => whnf)
  · rename_i h
    have hc : Cal d := by
      simp at h
      exact ⟨h.1.2, h.2⟩
    have S := hc.small
    refine CallVC.mk' (fun _ => sset_ok K.s d p S hpl) (fun _ => .cons ((.many fun j hj => by (rcases (show j = 0 ∨ j = 1 by omega) with rfl | rfl <;> exact CEq.refl _))) (.cons ((.many fun j hj => by (rcases (show j = 0 ∨ j = 1 ∨ j = 2 by omega) with rfl | rfl | rfl <;> exact CEq.refl _))) .nil)) ?_
    repeat' first
      | (with_reducible first | refine NeedI.mk (fun h => h) ?_ | refine NeedI.mk (fun h => h.2) ?_ | refine NeedI.mk (fun h => h.1) ?_ | exact Done.mk | refine Both.mk (fun _ => ?_) (fun _ => ?_) | refine Both2.mk (fun _ => ?_) ?_ | refine Need.mk (by first | omega | with_reducible exact CEq.refl _ | (dsimp only; omega) | (dsimp only [rng]; omega) | (simp only [decide_eq_true_eq, decide_eq_false_iff_not, Bool.or_eq_true, Bool.and_eq_true, Bool.or_eq_false_iff, Int.toNat_natCast, addN_eq, cond_false, cond_true, rng] at *; omega) | exact ⟨rfl, rfl⟩) ?_)
      | ((with_reducible refine Need.mk ?_ ?_); exact CEq.refl _)
      | ((with_reducible fail_if_success first | refine LoopVC.mk ?_ | refine Need.mk ?_ ?_ | refine CallVC.mk ?_ | refine LoopEnd.mk ?_ | refine Out.mk ?_ | show False | refine NeedI.mk ?_ ?_); conv => whnf)
    · rename_i hgone
      refine CallVC.mk' (fun _ => sdel_ok K.s d p.id S) (fun _ => .cons ((.many fun j hj => by (rcases (show j = 0 ∨ j = 1 by omega) with rfl | rfl <;> exact CEq.refl _))) (.cons (.one (CEq.refl _)) .nil)) ?_
      have hC := other_del (k := p.id) hc
      generalize commitD d p.id zs32 = c at *
      generalize planE d p.id zs32 = e at *
      repeat' first
        | (with_reducible first | refine NeedI.mk (fun h => h) ?_ | refine NeedI.mk (fun h => h.2) ?_ | refine NeedI.mk (fun h => h.1) ?_ | exact Done.mk | refine Both.mk (fun _ => ?_) (fun _ => ?_) | refine Both2.mk (fun _ => ?_) ?_ | refine Need.mk (by first | omega | with_reducible exact CEq.refl _ | (dsimp only; omega) | (dsimp only [rng]; omega) | (simp only [decide_eq_true_eq, decide_eq_false_iff_not, Bool.or_eq_true, Bool.and_eq_true, Bool.or_eq_false_iff, Int.toNat_natCast, addN_eq, cond_false, cond_true, rng] at *; omega) | exact ⟨rfl, rfl⟩) ?_)
        | ((with_reducible refine Need.mk ?_ ?_); exact CEq.refl _)
        | ((with_reducible fail_if_success first | refine LoopVC.mk ?_ | refine Need.mk ?_ ?_ | refine CallVC.mk ?_ | refine LoopEnd.mk ?_ | refine Out.mk ?_ | show False | refine NeedI.mk ?_ ?_); conv => whnf)
      refine LoopVC.inv (fun i : Nat => i ≤ 16) (fun i => stL [(2, .c (.bool gone)), (3, .va 3 0 0), (4, .va 4 0 0), (7, .va 7 0 0), (8, .c (.int .i64 e)), (9, .c (.int .i64 (i + 1)))]
        [(3, vE [.c (slL 1 strE d.secs), .c (slL 2 wrE d.cache)]), (4, vE [.c (.int .i64 p.id), .c (.int .i64 p.version), .c (.str p.body)]), (7, vE [.c (slL 1 strE c.secs), .c (slL 2 wrE c.cache)])]) (fun i => 16 - i) 0 (Nat.zero_le _) ?_ ?_
      · (refine Le.of ?_ ?_ <;> repeat' first | exact trivial | exact CEq.refl _ | exact rfl | exact cI (by push_cast; first | rfl | omega) | exact SubE.dat fun _ _ _ _ => CEq.refl _ | refine SubE.var2 ?_ ?_ | refine SubE.var1 ?_ | refine SubE.var3 ?_ ?_ ?_ | refine SubE.var4 ?_ ?_ ?_ ?_ | refine SubE.var5 ?_ ?_ ?_ ?_ ?_ | refine Exists.intro _ (And.intro rfl ?_) | refine And.intro ?_ ?_)
      rintro Q hQ i hi
      repeat' first
        | (with_reducible first | refine NeedI.mk (fun h => h) ?_ | refine NeedI.mk (fun h => h.2) ?_ | refine NeedI.mk (fun h => h.1) ?_ | exact Done.mk | refine Both.mk (fun _ => ?_) (fun _ => ?_) | refine Both2.mk (fun _ => ?_) ?_ | refine Need.mk (by first | omega | with_reducible exact CEq.refl _ | (dsimp only; omega) | (dsimp only [rng]; omega) | (simp only [decide_eq_true_eq, decide_eq_false_iff_not, Bool.or_eq_true, Bool.and_eq_true, Bool.or_eq_false_iff, Int.toNat_natCast, addN_eq, cond_false, cond_true, rng] at *; omega) | exact ⟨rfl, rfl⟩) ?_)
        | ((with_reducible refine Need.mk ?_ ?_); exact CEq.refl _)
        | ((with_reducible fail_if_success first | refine LoopVC.mk ?_ | refine Need.mk ?_ ?_ | refine CallVC.mk ?_ | refine LoopEnd.mk ?_ | refine Out.mk ?_ | show False | refine NeedI.mk ?_ ?_); conv => whnf)
      · rename_i h4
        have h4 : ((i : Int) + 1) ≤ 16 := of_decide_eq_true h4
        refine CallVC.mk' (fun _ => sget_ok K.s d ((i + 1 : Nat) : Int) S) (fun _ => .cons ((.many fun j hj => by (rcases (show j = 0 ∨ j = 1 by omega) with rfl | rfl <;> exact CEq.refl _))) (.cons (.one (eI (by push_cast; rfl))) .nil)) ?_
        have hg := hC.2 (i + 1) (by omega) (by omega)
        generalize sget d ((i + 1 : Nat) : Int) = g at *
        repeat' first
          | (with_reducible first | refine NeedI.mk (fun h => h) ?_ | refine NeedI.mk (fun h => h.2) ?_ | refine NeedI.mk (fun h => h.1) ?_ | exact Done.mk | refine Both.mk (fun _ => ?_) (fun _ => ?_) | refine Both2.mk (fun _ => ?_) ?_ | refine Need.mk (by first | omega | with_reducible exact CEq.refl _ | (dsimp only; omega) | (dsimp only [rng]; omega) | (simp only [decide_eq_true_eq, decide_eq_false_iff_not, Bool.or_eq_true, Bool.and_eq_true, Bool.or_eq_false_iff, Int.toNat_natCast, addN_eq, cond_false, cond_true, rng] at *; omega) | exact ⟨rfl, rfl⟩) ?_)
          | ((with_reducible refine Need.mk ?_ ?_); exact CEq.refl _)
          | ((with_reducible fail_if_success first | refine LoopVC.mk ?_ | refine Need.mk ?_ ?_ | refine CallVC.mk ?_ | refine LoopEnd.mk ?_ | refine Out.mk ?_ | show False | refine NeedI.mk ?_ ?_); conv => whnf)
        refine CallVC.mk' (fun _ => sget_ok K.s c ((i + 1 : Nat) : Int) hC.1.small) (fun _ => .cons ((.many fun j hj => by (rcases (show j = 0 ∨ j = 1 by omega) with rfl | rfl <;> exact CEq.refl _))) (.cons (.one (eI (by push_cast; rfl))) .nil)) ?_
        generalize sget c ((i + 1 : Nat) : Int) = x at *
        have e1 : ((i + 1 : Nat) : Int) = (i : Int) + 1 := by push_cast; rfl
        rw [e1] at hg
        repeat' first
          | (with_reducible first | refine NeedI.mk (fun h => h) ?_ | refine NeedI.mk (fun h => h.2) ?_ | refine NeedI.mk (fun h => h.1) ?_ | exact Done.mk | refine Both.mk (fun _ => ?_) (fun _ => ?_) | refine Both2.mk (fun _ => ?_) ?_ | refine Need.mk (by first | omega | with_reducible exact CEq.refl _ | (dsimp only; omega) | (dsimp only [rng]; omega) | (simp only [decide_eq_true_eq, decide_eq_false_iff_not, Bool.or_eq_true, Bool.and_eq_true, Bool.or_eq_false_iff, Int.toNat_natCast, addN_eq, cond_false, cond_true, rng] at *; omega) | exact ⟨rfl, rfl⟩) ?_)
          | ((with_reducible refine Need.mk ?_ ?_); exact CEq.refl _)
          | ((with_reducible fail_if_success first | refine LoopVC.mk ?_ | refine Need.mk ?_ ?_ | refine CallVC.mk ?_ | refine LoopEnd.mk ?_ | refine Out.mk ?_ | show False | refine NeedI.mk ?_ ?_); conv => whnf)
        · rename_i h5
          exfalso
          by_cases hh : (i : Int) + 1 = p.id ∧ e = 0
          · rw [hh.1, hh.2] at h5; simp at h5
          · rw [if_neg hh] at hg
            subst hg
            simp at h5
        · rename_i h5 h6
          exfalso
          by_cases hh : (i : Int) + 1 = p.id ∧ e = 0
          · rw [if_pos hh] at hg
            subst hg
            simp [hgone] at h6
          · simp only [Bool.and_eq_true, decide_eq_true_eq] at h6
            exact hh ⟨h6.1.1, h6.1.2⟩
        · skip
          refine LoopEnd.mk ⟨i + 1, by omega, by omega, ?_⟩
          (refine Le.of ?_ ?_ <;> repeat' first | exact trivial | exact CEq.refl _ | exact rfl | exact cI (by push_cast; first | rfl | omega) | exact SubE.dat fun _ _ _ _ => CEq.refl _ | refine SubE.var2 ?_ ?_ | refine SubE.var1 ?_ | refine SubE.var3 ?_ ?_ ?_ | refine SubE.var4 ?_ ?_ ?_ ?_ | refine SubE.var5 ?_ ?_ ?_ ?_ ?_ | refine Exists.intro _ (And.intro rfl ?_) | refine And.intro ?_ ?_)
      · skip
        refine Out.mk (hQ _ _ ?_)
        repeat' first
          | (with_reducible first | refine NeedI.mk (fun h => h) ?_ | refine NeedI.mk (fun h => h.2) ?_ | refine NeedI.mk (fun h => h.1) ?_ | exact Done.mk | refine Both.mk (fun _ => ?_) (fun _ => ?_) | refine Both2.mk (fun _ => ?_) ?_ | refine Need.mk (by first | omega | with_reducible exact CEq.refl _ | (dsimp only; omega) | (dsimp only [rng]; omega) | (simp only [decide_eq_true_eq, decide_eq_false_iff_not, Bool.or_eq_true, Bool.and_eq_true, Bool.or_eq_false_iff, Int.toNat_natCast, addN_eq, cond_false, cond_true, rng] at *; omega) | exact ⟨rfl, rfl⟩) ?_)
          | ((with_reducible refine Need.mk ?_ ?_); exact CEq.refl _)
          | ((with_reducible fail_if_success first | refine LoopVC.mk ?_ | refine Need.mk ?_ ?_ | refine CallVC.mk ?_ | refine LoopEnd.mk ?_ | refine Out.mk ?_ | show False | refine NeedI.mk ?_ ?_); conv => whnf)
        refine CallVC.mk' (fun _ => awake_ok K) (fun _ => .nil) ?_
        repeat' first
          | (with_reducible first | refine NeedI.mk (fun h => h) ?_ | refine NeedI.mk (fun h => h.2) ?_ | refine NeedI.mk (fun h => h.1) ?_ | exact Done.mk | refine Both.mk (fun _ => ?_) (fun _ => ?_) | refine Both2.mk (fun _ => ?_) ?_ | refine Need.mk (by first | omega | with_reducible exact CEq.refl _ | (dsimp only; omega) | (dsimp only [rng]; omega) | (simp only [decide_eq_true_eq, decide_eq_false_iff_not, Bool.or_eq_true, Bool.and_eq_true, Bool.or_eq_false_iff, Int.toNat_natCast, addN_eq, cond_false, cond_true, rng] at *; omega) | exact ⟨rfl, rfl⟩) ?_)
          | ((with_reducible refine Need.mk ?_ ?_); exact CEq.refl _)
          | ((with_reducible fail_if_success first | refine LoopVC.mk ?_ | refine Need.mk ?_ ?_ | refine CallVC.mk ?_ | refine LoopEnd.mk ?_ | refine Out.mk ?_ | show False | refine NeedI.mk ?_ ?_); conv => whnf)
    · rename_i hgone
      have hC := other_set (p := p) hc
      generalize sset d p = c at *
      generalize ssetE d p = e at *
      refine LoopVC.inv (fun i : Nat => i ≤ 16) (fun i => stL [(2, .c (.bool gone)), (3, .va 3 0 0), (4, .va 4 0 0), (7, .va 7 0 0), (8, .c (.int .i64 e)), (9, .c (.int .i64 (i + 1)))]
        [(3, vE [.c (slL 1 strE d.secs), .c (slL 2 wrE d.cache)]), (4, vE [.c (.int .i64 p.id), .c (.int .i64 p.version), .c (.str p.body)]), (7, vE [.c (slL 1 strE c.secs), .c (slL 2 wrE c.cache)])]) (fun i => 16 - i) 0 (Nat.zero_le _) ?_ ?_
      · (refine Le.of ?_ ?_ <;> repeat' first | exact trivial | exact CEq.refl _ | exact rfl | exact cI (by push_cast; first | rfl | omega) | exact SubE.dat fun _ _ _ _ => CEq.refl _ | refine SubE.var2 ?_ ?_ | refine SubE.var1 ?_ | refine SubE.var3 ?_ ?_ ?_ | refine SubE.var4 ?_ ?_ ?_ ?_ | refine SubE.var5 ?_ ?_ ?_ ?_ ?_ | refine Exists.intro _ (And.intro rfl ?_) | refine And.intro ?_ ?_)
      rintro Q hQ i hi
      repeat' first
        | (with_reducible first | refine NeedI.mk (fun h => h) ?_ | refine NeedI.mk (fun h => h.2) ?_ | refine NeedI.mk (fun h => h.1) ?_ | exact Done.mk | refine Both.mk (fun _ => ?_) (fun _ => ?_) | refine Both2.mk (fun _ => ?_) ?_ | refine Need.mk (by first | omega | with_reducible exact CEq.refl _ | (dsimp only; omega) | (dsimp only [rng]; omega) | (simp only [decide_eq_true_eq, decide_eq_false_iff_not, Bool.or_eq_true, Bool.and_eq_true, Bool.or_eq_false_iff, Int.toNat_natCast, addN_eq, cond_false, cond_true, rng] at *; omega) | exact ⟨rfl, rfl⟩) ?_)
        | ((with_reducible refine Need.mk ?_ ?_); exact CEq.refl _)
        | ((with_reducible fail_if_success first | refine LoopVC.mk ?_ | refine Need.mk ?_ ?_ | refine CallVC.mk ?_ | refine LoopEnd.mk ?_ | refine Out.mk ?_ | show False | refine NeedI.mk ?_ ?_); conv => whnf)
      · rename_i h4
        have h4 : ((i : Int) + 1) ≤ 16 := of_decide_eq_true h4
        refine CallVC.mk' (fun _ => sget_ok K.s d ((i + 1 : Nat) : Int) S) (fun _ => .cons ((.many fun j hj => by (rcases (show j = 0 ∨ j = 1 by omega) with rfl | rfl <;> exact CEq.refl _))) (.cons (.one (eI (by push_cast; rfl))) .nil)) ?_
        have hg := hC.2 (i + 1) (by omega) (by omega)
        generalize sget d ((i + 1 : Nat) : Int) = g at *
        repeat' first
          | (with_reducible first | refine NeedI.mk (fun h => h) ?_ | refine NeedI.mk (fun h => h.2) ?_ | refine NeedI.mk (fun h => h.1) ?_ | exact Done.mk | refine Both.mk (fun _ => ?_) (fun _ => ?_) | refine Both2.mk (fun _ => ?_) ?_ | refine Need.mk (by first | omega | with_reducible exact CEq.refl _ | (dsimp only; omega) | (dsimp only [rng]; omega) | (simp only [decide_eq_true_eq, decide_eq_false_iff_not, Bool.or_eq_true, Bool.and_eq_true, Bool.or_eq_false_iff, Int.toNat_natCast, addN_eq, cond_false, cond_true, rng] at *; omega) | exact ⟨rfl, rfl⟩) ?_)
          | ((with_reducible refine Need.mk ?_ ?_); exact CEq.refl _)
          | ((with_reducible fail_if_success first | refine LoopVC.mk ?_ | refine Need.mk ?_ ?_ | refine CallVC.mk ?_ | refine LoopEnd.mk ?_ | refine Out.mk ?_ | show False | refine NeedI.mk ?_ ?_); conv => whnf)
        refine CallVC.mk' (fun _ => sget_ok K.s c ((i + 1 : Nat) : Int) hC.1.small) (fun _ => .cons ((.many fun j hj => by (rcases (show j = 0 ∨ j = 1 by omega) with rfl | rfl <;> exact CEq.refl _))) (.cons (.one (eI (by push_cast; rfl))) .nil)) ?_
        generalize sget c ((i + 1 : Nat) : Int) = x at *
        have e1 : ((i + 1 : Nat) : Int) = (i : Int) + 1 := by push_cast; rfl
        rw [e1] at hg
        repeat' first
          | (with_reducible first | refine NeedI.mk (fun h => h) ?_ | refine NeedI.mk (fun h => h.2) ?_ | refine NeedI.mk (fun h => h.1) ?_ | exact Done.mk | refine Both.mk (fun _ => ?_) (fun _ => ?_) | refine Both2.mk (fun _ => ?_) ?_ | refine Need.mk (by first | omega | with_reducible exact CEq.refl _ | (dsimp only; omega) | (dsimp only [rng]; omega) | (simp only [decide_eq_true_eq, decide_eq_false_iff_not, Bool.or_eq_true, Bool.and_eq_true, Bool.or_eq_false_iff, Int.toNat_natCast, addN_eq, cond_false, cond_true, rng] at *; omega) | exact ⟨rfl, rfl⟩) ?_)
          | ((with_reducible refine Need.mk ?_ ?_); exact CEq.refl _)
          | ((with_reducible fail_if_success first | refine LoopVC.mk ?_ | refine Need.mk ?_ ?_ | refine CallVC.mk ?_ | refine LoopEnd.mk ?_ | refine Out.mk ?_ | show False | refine NeedI.mk ?_ ?_); conv => whnf)
        · rename_i h5
          exfalso
          by_cases hh : (i : Int) + 1 = p.id ∧ e = 0
          · rw [hh.1, hh.2] at h5; simp at h5
          · rw [if_neg hh] at hg
            subst hg
            simp at h5
        · rename_i h5 h6
          exfalso
          by_cases hh : (i : Int) + 1 = p.id ∧ e = 0
          · rw [if_pos hh] at hg
            subst hg
            simp [hgone] at h6
          · simp only [Bool.and_eq_true, decide_eq_true_eq] at h6
            exact hh ⟨h6.1.1, h6.1.2⟩
        · skip
          refine LoopEnd.mk ⟨i + 1, by omega, by omega, ?_⟩
          (refine Le.of ?_ ?_ <;> repeat' first | exact trivial | exact CEq.refl _ | exact rfl | exact cI (by push_cast; first | rfl | omega) | exact SubE.dat fun _ _ _ _ => CEq.refl _ | refine SubE.var2 ?_ ?_ | refine SubE.var1 ?_ | refine SubE.var3 ?_ ?_ ?_ | refine SubE.var4 ?_ ?_ ?_ ?_ | refine SubE.var5 ?_ ?_ ?_ ?_ ?_ | refine Exists.intro _ (And.intro rfl ?_) | refine And.intro ?_ ?_)
      · skip
        refine Out.mk (hQ _ _ ?_)
        repeat' first
          | (with_reducible first | refine NeedI.mk (fun h => h) ?_ | refine NeedI.mk (fun h => h.2) ?_ | refine NeedI.mk (fun h => h.1) ?_ | exact Done.mk | refine Both.mk (fun _ => ?_) (fun _ => ?_) | refine Both2.mk (fun _ => ?_) ?_ | refine Need.mk (by first | omega | with_reducible exact CEq.refl _ | (dsimp only; omega) | (dsimp only [rng]; omega) | (simp only [decide_eq_true_eq, decide_eq_false_iff_not, Bool.or_eq_true, Bool.and_eq_true, Bool.or_eq_false_iff, Int.toNat_natCast, addN_eq, cond_false, cond_true, rng] at *; omega) | exact ⟨rfl, rfl⟩) ?_)
          | ((with_reducible refine Need.mk ?_ ?_); exact CEq.refl _)
          | ((with_reducible fail_if_success first | refine LoopVC.mk ?_ | refine Need.mk ?_ ?_ | refine CallVC.mk ?_ | refine LoopEnd.mk ?_ | refine Out.mk ?_ | show False | refine NeedI.mk ?_ ?_); conv => whnf)
        refine CallVC.mk' (fun _ => awake_ok K) (fun _ => .nil) ?_
        repeat' first
          | (with_reducible first | refine NeedI.mk (fun h => h) ?_ | refine NeedI.mk (fun h => h.2) ?_ | refine NeedI.mk (fun h => h.1) ?_ | exact Done.mk | refine Both.mk (fun _ => ?_) (fun _ => ?_) | refine Both2.mk (fun _ => ?_) ?_ | refine Need.mk (by first | omega | with_reducible exact CEq.refl _ | (dsimp only; omega) | (dsimp only [rng]; omega) | (simp only [decide_eq_true_eq, decide_eq_false_iff_not, Bool.or_eq_true, Bool.and_eq_true, Bool.or_eq_false_iff, Int.toNat_natCast, addN_eq, cond_false, cond_true, rng] at *; omega) | exact ⟨rfl, rfl⟩) ?_)
          | ((with_reducible refine Need.mk ?_ ?_); exact CEq.refl _)
          | ((with_reducible fail_if_success first | refine LoopVC.mk ?_ | refine Need.mk ?_ ?_ | refine CallVC.mk ?_ | refine LoopEnd.mk ?_ | refine Out.mk ?_ | show False | refine NeedI.mk ?_ ?_); conv => whnf)
end
end Lk.S13
namespace Lk.S13
open Go Lk Lk.C Lk.S03 Lk.S12
/-- What is committed twice is the same. -/
theorem commit_twice {d : Dsk} {k : Int} {s : List UInt8} (h : Calm d) (hv : valid k) (hs : s.length = 32) : commitD (commitD d k s) k s = commitD d k s := by
  obtain ⟨v1, v2⟩ := (show 1 ≤ k ∧ k ≤ 16 from hv)
  obtain ⟨n, rfl⟩ : ∃ n : Nat, k = n := ⟨k.toNat, by omega⟩
  have h1 : 1 ≤ n := by omega
  have h2 : n ≤ 16 := by omega
  have c1 := plan_calm h h1 h2 hs
  have c2 := plan_calm c1 h1 h2 hs
  rw [show commitD d n s = runL d (plan n s) from if_pos ⟨h.usable, hv, hs⟩, show commitD (runL d (plan n s)) n s = runL (runL d (plan n s)) (plan n s) from if_pos ⟨c1.usable, hv, hs⟩]
  refine Calm.ext c2 c1 fun i hi => ?_
  rw [plan_rd c1 h1 h2 hs hi, plan_rd h h1 h2 hs hi]
  repeat' split
  all_goals rfl
theorem commit_calm {d : Dsk} {k : Int} {s : List UInt8} (h : Calm d) (hv : valid k) (hs : s.length = 32) : Calm (commitD d k s) := by
  obtain ⟨v1, v2⟩ := (show 1 ≤ k ∧ k ≤ 16 from hv)
  obtain ⟨n, rfl⟩ : ∃ n : Nat, k = n := ⟨k.toNat, by omega⟩
  rw [show commitD d n s = runL d (plan n s) from if_pos ⟨h.usable, hv, hs⟩]
  exact plan_calm h (by omega) (by omega) hs
theorem sl_none {d : Dsk} (h : ∀ q : Nat, 1 ≤ q → q ≤ 16 → (sget d q).2 ≠ 0) : ∀ {i : Nat}, i ≤ 16 → sl d i = []
  | 0, _ => rfl
  | i + 1, hi => by rw [sl, if_neg (h (i + 1) (by omega) hi)]; exact sl_none h (by omega)
theorem sl_one {d : Dsk} {n : Nat} (h1 : 1 ≤ n) (h2 : n ≤ 16) (hn : (sget d n).2 = 0) (h : ∀ q : Nat, 1 ≤ q → q ≤ 16 → q ≠ n → (sget d q).2 ≠ 0) : (sl d 16).length = 1 := by
  have key : ∀ i : Nat, i ≤ 16 → (sl d i).length = if n ≤ i then 1 else 0 := by
    intro i
    induction i with
    | zero => intro _; rw [if_neg (by omega)]; rfl
    | succ i ih =>
      intro hi
      have := ih (by omega)
      rw [sl]
      by_cases e : i + 1 = n
      · rw [e, if_pos hn, if_pos (Nat.le_refl _), List.length_append, this, if_neg (by omega)]; rfl
      · rw [if_neg (h (i + 1) (by omega) hi e), this]
        by_cases e2 : n ≤ i
        · rw [if_pos e2, if_pos (by omega)]
        · rw [if_neg e2, if_neg (by omega)]
  rw [key 16 (Nat.le_refl _), if_pos h2]
theorem sget_D35 {q : Nat} (q1 : 1 ≤ q) (q2 : q ≤ 16) : sget D35 q = (default, 3) := by
  rw [sget_got D35_cal.u q1 q2, D35_getS q q1 q2]; exact sgot_zs
section
variable {P : Program} {F : Nat → Nat}
set_option maxHeartbeats 8000000 in
set_option maxRecDepth 100000 in
theorem storeSame_law (K : K13 P F) (R : KRef P F) (R2 : S02.KRef P F) (hk : law13_StoreSame_k P F) (p : Pg) (hpl : p.body.length ≤ 9223372036854775807) :
    FnOk P (F 139) [.many 3 (pgE p)] [.one (.im (.bool true))] := by
  refine fnOk K.s.j.k.m hk ?_
  repeat' first
    | (with_reducible first | refine NeedI.mk (fun h => h) ?_ | refine NeedI.mk (fun h => h.2) ?_ | refine NeedI.mk (fun h => h.1) ?_ | exact Done.mk | refine Both.mk (fun _ => ?_) (fun _ => ?_) | refine Both2.mk (fun _ => ?_) ?_ | refine Need.mk (by first | omega | with_reducible exact CEq.refl _ | (dsimp only; omega) | (dsimp only [rng]; omega) | (simp only [decide_eq_true_eq, decide_eq_false_iff_not, Bool.or_eq_true, Bool.and_eq_true, Bool.or_eq_false_iff, Int.toNat_natCast, addN_eq, cond_false, cond_true, rng] at *; omega) | exact ⟨rfl, rfl⟩) ?_)
    | ((with_reducible refine Need.mk ?_ ?_); exact CEq.refl _)
    | ((with_reducible fail_if_success first | refine LoopVC.mk ?_ | refine Need.mk ?_ ?_ | refine CallVC.mk ?_ | refine LoopEnd.mk ?_ | refine Out.mk ?_ | show False | refine NeedI.mk ?_ ?_); conv => whnf)
  refine CallVC.mk' (fun _ => new_ok K.s.j.k.m K.s.j.k.new 35 K.s.j.k.rep) (fun _ => .cons (.one (CEq.refl _)) .nil) ?_
  rw [D35_new, D35_newE]
  repeat' first
    | (with_reducible first | refine NeedI.mk (fun h => h) ?_ | refine NeedI.mk (fun h => h.2) ?_ | refine NeedI.mk (fun h => h.1) ?_ | exact Done.mk | refine Both.mk (fun _ => ?_) (fun _ => ?_) | refine Both2.mk (fun _ => ?_) ?_ | refine Need.mk (by first | omega | with_reducible exact CEq.refl _ | (dsimp only; omega) | (dsimp only [rng]; omega) | (simp only [decide_eq_true_eq, decide_eq_false_iff_not, Bool.or_eq_true, Bool.and_eq_true, Bool.or_eq_false_iff, Int.toNat_natCast, addN_eq, cond_false, cond_true, rng] at *; omega) | exact ⟨rfl, rfl⟩) ?_)
    | ((with_reducible refine Need.mk ?_ ?_); exact CEq.refl _)
    | ((with_reducible fail_if_success first | refine LoopVC.mk ?_ | refine Need.mk ?_ ?_ | refine CallVC.mk ?_ | refine LoopEnd.mk ?_ | refine Out.mk ?_ | show False | refine NeedI.mk ?_ ?_); conv => whnf)
  refine CallVC.mk' (fun _ => S02.rright_ok R2.m R2.right p hpl) (fun _ => .cons ((.many fun j hj => by (rcases (show j = 0 ∨ j = 1 ∨ j = 2 by omega) with rfl | rfl | rfl <;> exact CEq.refl _))) .nil) ?_
  repeat' first
    | (with_reducible first | refine NeedI.mk (fun h => h) ?_ | refine NeedI.mk (fun h => h.2) ?_ | refine NeedI.mk (fun h => h.1) ?_ | exact Done.mk | refine Both.mk (fun _ => ?_) (fun _ => ?_) | refine Both2.mk (fun _ => ?_) ?_ | refine Need.mk (by first | omega | with_reducible exact CEq.refl _ | (dsimp only; omega) | (dsimp only [rng]; omega) | (simp only [decide_eq_true_eq, decide_eq_false_iff_not, Bool.or_eq_true, Bool.and_eq_true, Bool.or_eq_false_iff, Int.toNat_natCast, addN_eq, cond_false, cond_true, rng] at *; omega) | exact ⟨rfl, rfl⟩) ?_)
    | ((with_reducible refine Need.mk ?_ ?_); exact CEq.refl _)
    | ((with_reducible fail_if_success first | refine LoopVC.mk ?_ | refine Need.mk ?_ ?_ | refine CallVC.mk ?_ | refine LoopEnd.mk ?_ | refine Out.mk ?_ | show False | refine NeedI.mk ?_ ?_); conv => whnf)
  · rename_i h
    have h : ¬ S02.right p := by simpa using h
    refine CallVC.mk' (fun _ => sset_ok K.s D35 p D35_cal.small hpl) (fun _ => .cons ((.many fun j hj => by (rcases (show j = 0 ∨ j = 1 by omega) with rfl | rfl <;> exact CEq.refl _))) (.cons ((.many fun j hj => by (rcases (show j = 0 ∨ j = 1 ∨ j = 2 by omega) with rfl | rfl | rfl <;> exact CEq.refl _))) .nil)) ?_
    obtain ⟨e1, e2⟩ := set_not (d := D35) (p := p) fun x => h x.2
    rw [e1, e2]
    repeat' first
      | (with_reducible first | refine NeedI.mk (fun h => h) ?_ | refine NeedI.mk (fun h => h.2) ?_ | refine NeedI.mk (fun h => h.1) ?_ | exact Done.mk | refine Both.mk (fun _ => ?_) (fun _ => ?_) | refine Both2.mk (fun _ => ?_) ?_ | refine Need.mk (by first | omega | with_reducible exact CEq.refl _ | (dsimp only; omega) | (dsimp only [rng]; omega) | (simp only [decide_eq_true_eq, decide_eq_false_iff_not, Bool.or_eq_true, Bool.and_eq_true, Bool.or_eq_false_iff, Int.toNat_natCast, addN_eq, cond_false, cond_true, rng] at *; omega) | exact ⟨rfl, rfl⟩) ?_)
      | ((with_reducible refine Need.mk ?_ ?_); exact CEq.refl _)
      | ((with_reducible fail_if_success first | refine LoopVC.mk ?_ | refine Need.mk ?_ ?_ | refine CallVC.mk ?_ | refine LoopEnd.mk ?_ | refine Out.mk ?_ | show False | refine NeedI.mk ?_ ?_); conv => whnf)
    refine CallVC.mk' (fun _ => awake_ok K) (fun _ => .nil) ?_
    repeat' first
      | (with_reducible first | refine NeedI.mk (fun h => h) ?_ | refine NeedI.mk (fun h => h.2) ?_ | refine NeedI.mk (fun h => h.1) ?_ | exact Done.mk | refine Both.mk (fun _ => ?_) (fun _ => ?_) | refine Both2.mk (fun _ => ?_) ?_ | refine Need.mk (by first | omega | with_reducible exact CEq.refl _ | (dsimp only; omega) | (dsimp only [rng]; omega) | (simp only [decide_eq_true_eq, decide_eq_false_iff_not, Bool.or_eq_true, Bool.and_eq_true, Bool.or_eq_false_iff, Int.toNat_natCast, addN_eq, cond_false, cond_true, rng] at *; omega) | exact ⟨rfl, rfl⟩) ?_)
      | ((with_reducible refine Need.mk ?_ ?_); exact CEq.refl _)
      | ((with_reducible fail_if_success first | refine LoopVC.mk ?_ | refine Need.mk ?_ ?_ | refine CallVC.mk ?_ | refine LoopEnd.mk ?_ | refine Out.mk ?_ | show False | refine NeedI.mk ?_ ?_); conv => whnf)
  · rename_i h
    have h : S02.right p := by simpa using h
    have hv := right_valid h
    obtain ⟨v1, v2⟩ := (show 1 ≤ p.id ∧ p.id ≤ 16 from hv)
    obtain ⟨n, hn⟩ : ∃ n : Nat, p.id = n := ⟨p.id.toNat, by omega⟩
    have hl := S02.putS_len h.2.2
    have s1 : ∀ d, sset d p = commitD d p.id (S02.putS p) := fun d => if_pos h
    obtain ⟨a1, a2, a3⟩ := set_cal D35_cal h
    have c1 := commit_calm D35_calm hv hl
    have t1 := commit_twice D35_calm hv hl
    rw [← s1] at c1
    rw [← s1, ← s1] at t1
    obtain ⟨x1, x2, x3⟩ := del_cal a1 hv
    have t2 := commit_twice c1 hv (s := zs32) rfl
    have w1 : (sl (sset D35 p) 16).length = 1 := by
      refine sl_one (n := n) (by omega) (by omega) (by rw [a3 n (by omega) (by omega), if_pos hn.symm]) fun q q1 q2 qn => ?_
      rw [a3 q q1 q2, if_neg (by omega), sget_D35 q1 q2]; decide
    have w2 : sl (commitD (sset D35 p) p.id zs32) 16 = [] := by
      refine sl_none (fun q q1 q2 => ?_) (Nat.le_refl _)
      rw [x3 q q1 q2, a3 q q1 q2]
      by_cases e : (q : Int) = p.id
      · rw [if_pos e]; decide
      · rw [if_neg e, if_neg e, sget_D35 q1 q2]; decide
    have b2 := (set_cal a1 h).2.1
    have y2 := (del_cal x1 hv).2.1
    refine CallVC.mk' (fun _ => sset_ok K.s D35 p D35_cal.small hpl) (fun _ => .cons ((.many fun j hj => by (rcases (show j = 0 ∨ j = 1 by omega) with rfl | rfl <;> exact CEq.refl _))) (.cons ((.many fun j hj => by (rcases (show j = 0 ∨ j = 1 ∨ j = 2 by omega) with rfl | rfl | rfl <;> exact CEq.refl _))) .nil)) ?_
    rw [a2]
    generalize sset D35 p = a at *
    repeat' first
      | (with_reducible first | refine NeedI.mk (fun h => h) ?_ | refine NeedI.mk (fun h => h.2) ?_ | refine NeedI.mk (fun h => h.1) ?_ | exact Done.mk | refine Both.mk (fun _ => ?_) (fun _ => ?_) | refine Both2.mk (fun _ => ?_) ?_ | refine Need.mk (by first | omega | with_reducible exact CEq.refl _ | (dsimp only; omega) | (dsimp only [rng]; omega) | (simp only [decide_eq_true_eq, decide_eq_false_iff_not, Bool.or_eq_true, Bool.and_eq_true, Bool.or_eq_false_iff, Int.toNat_natCast, addN_eq, cond_false, cond_true, rng] at *; omega) | exact ⟨rfl, rfl⟩) ?_)
      | ((with_reducible refine Need.mk ?_ ?_); exact CEq.refl _)
      | ((with_reducible fail_if_success first | refine LoopVC.mk ?_ | refine Need.mk ?_ ?_ | refine CallVC.mk ?_ | refine LoopEnd.mk ?_ | refine Out.mk ?_ | show False | refine NeedI.mk ?_ ?_); conv => whnf)
    refine CallVC.mk' (fun _ => sset_ok K.s a p a1.small hpl) (fun _ => .cons ((.many fun j hj => by (rcases (show j = 0 ∨ j = 1 by omega) with rfl | rfl <;> exact CEq.refl _))) (.cons ((.many fun j hj => by (rcases (show j = 0 ∨ j = 1 ∨ j = 2 by omega) with rfl | rfl | rfl <;> exact CEq.refl _))) .nil)) ?_
    rw [t1, b2]
    repeat' first
      | (with_reducible first | refine NeedI.mk (fun h => h) ?_ | refine NeedI.mk (fun h => h.2) ?_ | refine NeedI.mk (fun h => h.1) ?_ | exact Done.mk | refine Both.mk (fun _ => ?_) (fun _ => ?_) | refine Both2.mk (fun _ => ?_) ?_ | refine Need.mk (by first | omega | with_reducible exact CEq.refl _ | (dsimp only; omega) | (dsimp only [rng]; omega) | (simp only [decide_eq_true_eq, decide_eq_false_iff_not, Bool.or_eq_true, Bool.and_eq_true, Bool.or_eq_false_iff, Int.toNat_natCast, addN_eq, cond_false, cond_true, rng] at *; omega) | exact ⟨rfl, rfl⟩) ?_)
      | ((with_reducible refine Need.mk ?_ ?_); exact CEq.refl _)
      | ((with_reducible fail_if_success first | refine LoopVC.mk ?_ | refine Need.mk ?_ ?_ | refine CallVC.mk ?_ | refine LoopEnd.mk ?_ | refine Out.mk ?_ | show False | refine NeedI.mk ?_ ?_); conv => whnf)
    refine CallVC.mk' (fun _ => sdel_ok K.s a p.id a1.small) (fun _ => .cons ((.many fun j hj => by (rcases (show j = 0 ∨ j = 1 by omega) with rfl | rfl <;> exact CEq.refl _))) (.cons (.one (CEq.refl _)) .nil)) ?_
    rw [x2]
    generalize commitD a p.id zs32 = x at *
    repeat' first
      | (with_reducible first | refine NeedI.mk (fun h => h) ?_ | refine NeedI.mk (fun h => h.2) ?_ | refine NeedI.mk (fun h => h.1) ?_ | exact Done.mk | refine Both.mk (fun _ => ?_) (fun _ => ?_) | refine Both2.mk (fun _ => ?_) ?_ | refine Need.mk (by first | omega | with_reducible exact CEq.refl _ | (dsimp only; omega) | (dsimp only [rng]; omega) | (simp only [decide_eq_true_eq, decide_eq_false_iff_not, Bool.or_eq_true, Bool.and_eq_true, Bool.or_eq_false_iff, Int.toNat_natCast, addN_eq, cond_false, cond_true, rng] at *; omega) | exact ⟨rfl, rfl⟩) ?_)
      | ((with_reducible refine Need.mk ?_ ?_); exact CEq.refl _)
      | ((with_reducible fail_if_success first | refine LoopVC.mk ?_ | refine Need.mk ?_ ?_ | refine CallVC.mk ?_ | refine LoopEnd.mk ?_ | refine Out.mk ?_ | show False | refine NeedI.mk ?_ ?_); conv => whnf)
    refine CallVC.mk' (fun _ => sdel_ok K.s x p.id x1.small) (fun _ => .cons ((.many fun j hj => by (rcases (show j = 0 ∨ j = 1 by omega) with rfl | rfl <;> exact CEq.refl _))) (.cons (.one (CEq.refl _)) .nil)) ?_
    rw [y2, t2]
    repeat' first
      | (with_reducible first | refine NeedI.mk (fun h => h) ?_ | refine NeedI.mk (fun h => h.2) ?_ | refine NeedI.mk (fun h => h.1) ?_ | exact Done.mk | refine Both.mk (fun _ => ?_) (fun _ => ?_) | refine Both2.mk (fun _ => ?_) ?_ | refine Need.mk (by first | omega | with_reducible exact CEq.refl _ | (dsimp only; omega) | (dsimp only [rng]; omega) | (simp only [decide_eq_true_eq, decide_eq_false_iff_not, Bool.or_eq_true, Bool.and_eq_true, Bool.or_eq_false_iff, Int.toNat_natCast, addN_eq, cond_false, cond_true, rng] at *; omega) | exact ⟨rfl, rfl⟩) ?_)
      | ((with_reducible refine Need.mk ?_ ?_); exact CEq.refl _)
      | ((with_reducible fail_if_success first | refine LoopVC.mk ?_ | refine Need.mk ?_ ?_ | refine CallVC.mk ?_ | refine LoopEnd.mk ?_ | refine Out.mk ?_ | show False | refine NeedI.mk ?_ ?_); conv => whnf)
    refine CallVC.mk' (fun _ => same_ok R a a a1.small a1.small) (fun _ => .cons ((.many fun j hj => by (rcases (show j = 0 ∨ j = 1 by omega) with rfl | rfl <;> exact CEq.refl _))) (.cons ((.many fun j hj => by (rcases (show j = 0 ∨ j = 1 by omega) with rfl | rfl <;> exact CEq.refl _))) .nil)) ?_
    repeat' first
      | (with_reducible first | refine NeedI.mk (fun h => h) ?_ | refine NeedI.mk (fun h => h.2) ?_ | refine NeedI.mk (fun h => h.1) ?_ | exact Done.mk | refine Both.mk (fun _ => ?_) (fun _ => ?_) | refine Both2.mk (fun _ => ?_) ?_ | refine Need.mk (by first | omega | with_reducible exact CEq.refl _ | (dsimp only; omega) | (dsimp only [rng]; omega) | (simp only [decide_eq_true_eq, decide_eq_false_iff_not, Bool.or_eq_true, Bool.and_eq_true, Bool.or_eq_false_iff, Int.toNat_natCast, addN_eq, cond_false, cond_true, rng] at *; omega) | exact ⟨rfl, rfl⟩) ?_)
      | ((with_reducible refine Need.mk ?_ ?_); exact CEq.refl _)
      | ((with_reducible fail_if_success first | refine LoopVC.mk ?_ | refine Need.mk ?_ ?_ | refine CallVC.mk ?_ | refine LoopEnd.mk ?_ | refine Out.mk ?_ | show False | refine NeedI.mk ?_ ?_); conv => whnf)
    refine CallVC.mk' (fun _ => same_ok R x x x1.small x1.small) (fun _ => .cons ((.many fun j hj => by (rcases (show j = 0 ∨ j = 1 by omega) with rfl | rfl <;> exact CEq.refl _))) (.cons ((.many fun j hj => by (rcases (show j = 0 ∨ j = 1 by omega) with rfl | rfl <;> exact CEq.refl _))) .nil)) ?_
    repeat' first
      | (with_reducible first | refine NeedI.mk (fun h => h) ?_ | refine NeedI.mk (fun h => h.2) ?_ | refine NeedI.mk (fun h => h.1) ?_ | exact Done.mk | refine Both.mk (fun _ => ?_) (fun _ => ?_) | refine Both2.mk (fun _ => ?_) ?_ | refine Need.mk (by first | omega | with_reducible exact CEq.refl _ | (dsimp only; omega) | (dsimp only [rng]; omega) | (simp only [decide_eq_true_eq, decide_eq_false_iff_not, Bool.or_eq_true, Bool.and_eq_true, Bool.or_eq_false_iff, Int.toNat_natCast, addN_eq, cond_false, cond_true, rng] at *; omega) | exact ⟨rfl, rfl⟩) ?_)
      | ((with_reducible refine Need.mk ?_ ?_); exact CEq.refl _)
      | ((with_reducible fail_if_success first | refine LoopVC.mk ?_ | refine Need.mk ?_ ?_ | refine CallVC.mk ?_ | refine LoopEnd.mk ?_ | refine Out.mk ?_ | show False | refine NeedI.mk ?_ ?_); conv => whnf)
    refine CallVC.mk' (fun _ => slist_ok K.s a a1.small) (fun _ => .cons ((.many fun j hj => by (rcases (show j = 0 ∨ j = 1 by omega) with rfl | rfl <;> exact CEq.refl _))) .nil) ?_
    repeat' first
      | (with_reducible first | refine NeedI.mk (fun h => h) ?_ | refine NeedI.mk (fun h => h.2) ?_ | refine NeedI.mk (fun h => h.1) ?_ | exact Done.mk | refine Both.mk (fun _ => ?_) (fun _ => ?_) | refine Both2.mk (fun _ => ?_) ?_ | refine Need.mk (by first | omega | with_reducible exact CEq.refl _ | (dsimp only; omega) | (dsimp only [rng]; omega) | (simp only [decide_eq_true_eq, decide_eq_false_iff_not, Bool.or_eq_true, Bool.and_eq_true, Bool.or_eq_false_iff, Int.toNat_natCast, addN_eq, cond_false, cond_true, rng] at *; omega) | exact ⟨rfl, rfl⟩) ?_)
      | ((with_reducible refine Need.mk ?_ ?_); exact CEq.refl _)
      | ((with_reducible fail_if_success first | refine LoopVC.mk ?_ | refine Need.mk ?_ ?_ | refine CallVC.mk ?_ | refine LoopEnd.mk ?_ | refine Out.mk ?_ | show False | refine NeedI.mk ?_ ?_); conv => whnf)
    refine CallVC.mk' (fun _ => slist_ok K.s x x1.small) (fun _ => .cons ((.many fun j hj => by (rcases (show j = 0 ∨ j = 1 by omega) with rfl | rfl <;> exact CEq.refl _))) .nil) ?_
    rw [w2]
    repeat' first
      | (with_reducible first | refine NeedI.mk (fun h => h) ?_ | refine NeedI.mk (fun h => h.2) ?_ | refine NeedI.mk (fun h => h.1) ?_ | exact Done.mk | refine Both.mk (fun _ => ?_) (fun _ => ?_) | refine Both2.mk (fun _ => ?_) ?_ | refine Need.mk (by first | omega | with_reducible exact CEq.refl _ | (dsimp only; omega) | (dsimp only [rng]; omega) | (simp only [decide_eq_true_eq, decide_eq_false_iff_not, Bool.or_eq_true, Bool.and_eq_true, Bool.or_eq_false_iff, Int.toNat_natCast, addN_eq, cond_false, cond_true, rng] at *; omega) | exact ⟨rfl, rfl⟩) ?_)
      | ((with_reducible refine Need.mk ?_ ?_); exact CEq.refl _)
      | ((with_reducible fail_if_success first | refine LoopVC.mk ?_ | refine Need.mk ?_ ?_ | refine CallVC.mk ?_ | refine LoopEnd.mk ?_ | refine Out.mk ?_ | show False | refine NeedI.mk ?_ ?_); conv => whnf)
    refine CallVC.mk' (fun _ => awake_ok K) (fun _ => .nil) ?_
    repeat' first
      | (with_reducible first | refine NeedI.mk (fun h => h) ?_ | refine NeedI.mk (fun h => h.2) ?_ | refine NeedI.mk (fun h => h.1) ?_ | exact Done.mk | refine Both.mk (fun _ => ?_) (fun _ => ?_) | refine Both2.mk (fun _ => ?_) ?_ | refine Need.mk (by first | omega | with_reducible exact CEq.refl _ | (dsimp only; omega) | (dsimp only [rng]; omega) | (simp only [decide_eq_true_eq, decide_eq_false_iff_not, Bool.or_eq_true, Bool.and_eq_true, Bool.or_eq_false_iff, Int.toNat_natCast, addN_eq, cond_false, cond_true, rng] at *; omega) | exact ⟨rfl, rfl⟩) ?_)
      | ((with_reducible refine Need.mk ?_ ?_); exact CEq.refl _)
      | ((with_reducible fail_if_success first | refine LoopVC.mk ?_ | refine Need.mk ?_ ?_ | refine CallVC.mk ?_ | refine LoopEnd.mk ?_ | refine Out.mk ?_ | show False | refine NeedI.mk ?_ ?_); conv => whnf)
    refine Need.mk (eB (by rw [w1]; simp)) ?_
    repeat' first
      | (with_reducible first | refine NeedI.mk (fun h => h) ?_ | refine NeedI.mk (fun h => h.2) ?_ | refine NeedI.mk (fun h => h.1) ?_ | exact Done.mk | refine Both.mk (fun _ => ?_) (fun _ => ?_) | refine Both2.mk (fun _ => ?_) ?_ | refine Need.mk (by first | omega | with_reducible exact CEq.refl _ | (dsimp only; omega) | (dsimp only [rng]; omega) | (simp only [decide_eq_true_eq, decide_eq_false_iff_not, Bool.or_eq_true, Bool.and_eq_true, Bool.or_eq_false_iff, Int.toNat_natCast, addN_eq, cond_false, cond_true, rng] at *; omega) | exact ⟨rfl, rfl⟩) ?_)
      | ((with_reducible refine Need.mk ?_ ?_); exact CEq.refl _)
      | ((with_reducible fail_if_success first | refine LoopVC.mk ?_ | refine Need.mk ?_ ?_ | refine CallVC.mk ?_ | refine LoopEnd.mk ?_ | refine Out.mk ?_ | show False | refine NeedI.mk ?_ ?_); conv => whnf)
end
end Lk.S13
namespace Lk.S13
open Go Lk Lk.C Lk.S03 Lk.S12
/-- Pages that were set. -/
structure Was (d : Dsk) (was : List Pg) : Prop where
  c : Calm d
  z : d.read 0 = zs
  k : Keep d was
theorem Was.start : Was D35 (List.replicate 17 default) := ⟨D35_calm, by decide +kernel, Keep.start⟩
theorem Was.set {d : Dsk} {was : List Pg} {p : Pg} {n : Nat} (h : Was d was) (hr : S02.right p) (hn : p.id = n) : Was (sset d p) (was.set n p) := by
  have hl := S02.putS_len hr.2.2
  have hv := right_valid hr
  have e : sset d p = runL d (plan p.id (S02.putS p)) := by
    unfold sset; rw [if_pos hr]; exact if_pos ⟨h.c.usable, hv, hl⟩
  obtain ⟨v1, v2⟩ := (show 1 ≤ p.id ∧ p.id ≤ 16 from hv)
  refine ⟨?_, ?_, h.k.set hr hn⟩
  · rw [e, hn]; exact plan_calm h.c (by omega) (by omega) hl
  · rw [e, hn, plan_rd h.c (by omega) (by omega) hl (by omega), if_pos rfl]
def stepS (p : Pg) : List UInt8 := if S02.right p then S02.putS p else zs32
def toP (p : Pg) : Pg := if p.version = 0 then default else p
def okP (p : Pg) : Prop := valid p.id ∧ (S02.right p ∨ (p.version = 0 ∧ p.body = []))
theorem stepS_len (p : Pg) : (stepS p).length = 32 := by
  unfold stepS; split
  · rename_i h; exact S02.putS_len h.2.2
  · rfl
theorem ssteps_eq {d : Dsk} {p : Pg} {n : Nat} (hu : usable d) (h : okP p) (hn : p.id = n) : ssteps d p = plan n (stepS p) := by
  obtain ⟨hv, h⟩ := h
  unfold ssteps stepS
  by_cases hr : S02.right p
  · have hver : p.version ≠ 0 ∨ p.body ≠ [] := .inl (by have := hr.2.1.1; omega)
    rw [if_pos hver, if_pos hr, if_pos hr, ← hn]; exact if_pos ⟨hu, hv, S02.putS_len hr.2.2⟩
  · obtain ⟨h1, h2⟩ := h.resolve_left hr
    rw [if_neg (fun x => x.elim (fun y => y h1) (fun y => y h2)), if_neg hr, ← hn]; exact if_pos ⟨hu, hv, rfl⟩
theorem sgot_step {p : Pg} (h : okP p) : (sgot (stepS p) p.id).1 = toP p ∧ ((sgot (stepS p) p.id).2 = 0 ∨ (sgot (stepS p) p.id).2 = 3) := by
  unfold stepS toP
  by_cases hr : S02.right p
  · have hver : ¬ p.version = 0 := by have := hr.2.1.1; omega
    rw [if_pos hr, if_neg hver, sgot_put hr]; exact ⟨rfl, .inl rfl⟩
  · obtain ⟨h1, _⟩ := h.2.resolve_left hr
    rw [if_neg hr, if_pos h1, sgot_zs]; exact ⟨rfl, .inr rfl⟩
/-- Behind a part of the steps, a crash, and Recover. -/
theorem store_cut {d : Dsk} {was : List Pg} {p : Pg} {n k : Nat} {keep : List Int} (h : Was d was) (hp : okP p) (hn : p.id = n) :
    right (runL d ((ssteps d p).take k)) ∧ right ((runL d ((ssteps d p).take k)).crash keep) ∧ usable (recover ((runL d ((ssteps d p).take k)).crash keep)) ∧
    ∀ q : Nat, 1 ≤ q → q ≤ 16 → ((sget (recover ((runL d ((ssteps d p).take k)).crash keep)) q).2 = 0 ∨ (sget (recover ((runL d ((ssteps d p).take k)).crash keep)) q).2 = 3) ∧
      ((sget (recover ((runL d ((ssteps d p).take k)).crash keep)) q).1 = was.getD q default ∨ (q = n ∧ (sget (recover ((runL d ((ssteps d p).take k)).crash keep)) q).1 = toP p)) ∧
      (10 ≤ k → q = n → (sget (recover ((runL d ((ssteps d p).take k)).crash keep)) q).1 = toP p) := by
  obtain ⟨v1, v2⟩ := (show 1 ≤ p.id ∧ p.id ≤ 16 from hp.1)
  have h1 : 1 ≤ n := by omega
  have h2 : n ≤ 16 := by omega
  rw [ssteps_eq h.c.usable hp hn]
  have hl := stepS_len p
  have hs := sgot_step hp
  rw [hn] at hs
  obtain ⟨c1, I1, z1⟩ := plan_cut (k := k) (keep := keep) h.c h.z h1 h2 hl
  have hr := runL_right (l := (plan n (stepS p)).take k) h.c.r
  obtain ⟨c2, O⟩ := I1.recover c1 h1 h2
  have zz : 10 ≤ k → recover ((runL d ((plan n (stepS p)).take k)).crash keep) = (runL d ((plan n (stepS p)).take k)).crash keep := fun h => recover_zs (z1 h).1
  have hz : ∀ x : Nat → List UInt8, At x n ((stepS p).take 16) ((stepS p).drop 16) → x (2 * n + 1) ++ x (2 * n + 2) = stepS p := fun x hx => by rw [hx.1, hx.2]; exact List.take_append_drop 16 _
  generalize (runL d ((plan n (stepS p)).take k)).crash keep = e at *
  have key : ∀ q : Nat, 1 ≤ q → q ≤ 16 → getS (recover e) q = getS d q ∨ (q = n ∧ getS (recover e) q = stepS p) := fun q q1 q2 => by
    by_cases hq : q = n
    · subst hq
      rcases O.st with x | x
      · left; unfold getS; rw [x.1, x.2]
      · right; exact ⟨rfl, hz _ x⟩
    · left
      have x := O.oth q q1 q2 hq
      unfold getS; rw [x.1, x.2]
  have key10 : 10 ≤ k → getS (recover e) n = stepS p := fun h10 => by rw [zz h10]; exact hz _ (z1 h10).2
  refine ⟨hr, c1.r, c2.usable, fun q q1 q2 => ?_⟩
  have hold := h.k.g q q1 q2
  rw [sget_got h.c.usable q1 q2] at hold
  rw [sget_got c2.usable q1 q2]
  refine ⟨?_, ?_, fun h10 hq => ?_⟩
  · rcases key q q1 q2 with x | ⟨rfl, x⟩
    · rw [x]; rcases hold with ⟨_, y⟩ | ⟨_, y⟩ <;> rw [y]
      · exact .inl rfl
      · exact .inr rfl
    · rw [x]; exact hs.2
  · rcases key q q1 q2 with x | ⟨rfl, x⟩
    · left; rw [x]; rcases hold with ⟨_, y⟩ | ⟨z, y⟩ <;> rw [y]
      exact z.symm
    · right; rw [x]; exact ⟨rfl, hs.1⟩
  · subst hq; rw [key10 h10]; exact hs.1
end Lk.S13
namespace Lk.S13
open Go Lk Lk.C Lk.S03 Lk.S12
section
variable {P : Program} {F : Nat → Nat}
set_option maxHeartbeats 8000000 in
set_option maxRecDepth 100000 in
theorem storeCrash_law (K : K13 P F) (R2 : S02.KRef P F) (hk : law13_StoreCrash_k P F) (pages : List Pg) (p : Pg) (most : UInt8) (keep : List Int) (hpl : p.body.length ≤ 9223372036854775807)
    (hpn : pages.length ≤ 9223372036854775807) (hpb : ∀ q ∈ pages, q.body.length ≤ 9223372036854775807) (hkl : keep.length ≤ 9223372036854775807) :
    FnOk P (F 140) [.one (slL 3 pgE pages), .many 3 (pgE p), .one (.int .u8 most.toNat), .one (slL 1 intE keep)] [.one (.im (.bool true))] := by
  refine fnOk K.s.j.k.m hk ?_
  repeat' first
    | (with_reducible first | refine NeedI.mk (fun h => h) ?_ | refine NeedI.mk (fun h => h.2) ?_ | refine NeedI.mk (fun h => h.1) ?_ | exact Done.mk | refine Both.mk (fun _ => ?_) (fun _ => ?_) | refine Both2.mk (fun _ => ?_) ?_ | refine Need.mk (by first | omega | with_reducible exact CEq.refl _ | (dsimp only; omega) | (dsimp only [rng]; omega) | (simp only [decide_eq_true_eq, decide_eq_false_iff_not, Bool.or_eq_true, Bool.and_eq_true, Bool.or_eq_false_iff, Int.toNat_natCast, addN_eq, cond_false, cond_true, rng] at *; omega) | exact ⟨rfl, rfl⟩) ?_)
    | ((with_reducible refine Need.mk ?_ ?_); exact CEq.refl _)
    | ((with_reducible fail_if_success first | refine LoopVC.mk ?_ | refine Need.mk ?_ ?_ | refine CallVC.mk ?_ | refine LoopEnd.mk ?_ | refine Out.mk ?_ | show False | refine NeedI.mk ?_ ?_); conv => whnf)
  refine CallVC.mk' (fun _ => new_ok K.s.j.k.m K.s.j.k.new 35 K.s.j.k.rep) (fun _ => .cons (.one (CEq.refl _)) .nil) ?_
  rw [D35_new, D35_newE]
  repeat' first
    | (with_reducible first | refine NeedI.mk (fun h => h) ?_ | refine NeedI.mk (fun h => h.2) ?_ | refine NeedI.mk (fun h => h.1) ?_ | exact Done.mk | refine Both.mk (fun _ => ?_) (fun _ => ?_) | refine Both2.mk (fun _ => ?_) ?_ | refine Need.mk (by first | omega | with_reducible exact CEq.refl _ | (dsimp only; omega) | (dsimp only [rng]; omega) | (simp only [decide_eq_true_eq, decide_eq_false_iff_not, Bool.or_eq_true, Bool.and_eq_true, Bool.or_eq_false_iff, Int.toNat_natCast, addN_eq, cond_false, cond_true, rng] at *; omega) | exact ⟨rfl, rfl⟩) ?_)
    | ((with_reducible refine Need.mk ?_ ?_); exact CEq.refl _)
    | ((with_reducible fail_if_success first | refine LoopVC.mk ?_ | refine Need.mk ?_ ?_ | refine CallVC.mk ?_ | refine LoopEnd.mk ?_ | refine Out.mk ?_ | show False | refine NeedI.mk ?_ ?_); conv => whnf)
  refine CallVC.mk' (fun _ => S02.rright_ok R2.m R2.right p hpl) (fun _ => .cons ((.many fun j hj => by (rcases (show j = 0 ∨ j = 1 ∨ j = 2 by omega) with rfl | rfl | rfl <;> exact CEq.refl _))) .nil) ?_
  repeat' first
    | (with_reducible first | refine NeedI.mk (fun h => h) ?_ | refine NeedI.mk (fun h => h.2) ?_ | refine NeedI.mk (fun h => h.1) ?_ | exact Done.mk | refine Both.mk (fun _ => ?_) (fun _ => ?_) | refine Both2.mk (fun _ => ?_) ?_ | refine Need.mk (by first | omega | with_reducible exact CEq.refl _ | (dsimp only; omega) | (dsimp only [rng]; omega) | (simp only [decide_eq_true_eq, decide_eq_false_iff_not, Bool.or_eq_true, Bool.and_eq_true, Bool.or_eq_false_iff, Int.toNat_natCast, addN_eq, cond_false, cond_true, rng] at *; omega) | exact ⟨rfl, rfl⟩) ?_)
    | ((with_reducible refine Need.mk ?_ ?_); exact CEq.refl _)
    | ((with_reducible fail_if_success first | refine LoopVC.mk ?_ | refine Need.mk ?_ ?_ | refine CallVC.mk ?_ | refine LoopEnd.mk ?_ | refine Out.mk ?_ | show False | refine NeedI.mk ?_ ?_); conv => whnf)
  · refine CallVC.mk' (fun _ => awake_ok K) (fun _ => .nil) ?_
    repeat' first
      | (with_reducible first | refine NeedI.mk (fun h => h) ?_ | refine NeedI.mk (fun h => h.2) ?_ | refine NeedI.mk (fun h => h.1) ?_ | exact Done.mk | refine Both.mk (fun _ => ?_) (fun _ => ?_) | refine Both2.mk (fun _ => ?_) ?_ | refine Need.mk (by first | omega | with_reducible exact CEq.refl _ | (dsimp only; omega) | (dsimp only [rng]; omega) | (simp only [decide_eq_true_eq, decide_eq_false_iff_not, Bool.or_eq_true, Bool.and_eq_true, Bool.or_eq_false_iff, Int.toNat_natCast, addN_eq, cond_false, cond_true, rng] at *; omega) | exact ⟨rfl, rfl⟩) ?_)
      | ((with_reducible refine Need.mk ?_ ?_); exact CEq.refl _)
      | ((with_reducible fail_if_success first | refine LoopVC.mk ?_ | refine Need.mk ?_ ?_ | refine CallVC.mk ?_ | refine LoopEnd.mk ?_ | refine Out.mk ?_ | show False | refine NeedI.mk ?_ ?_); conv => whnf)
  · rename_i h
    have hok : okP p ∧ pages.length ≤ 16 ∧ keep.length ≤ 60 := by
      simp at h
      obtain ⟨⟨⟨⟨a, b⟩, c⟩, d⟩, e⟩ := h
      exact ⟨⟨⟨by omega, by omega⟩, (Classical.em (S02.right p)).imp id fun x => e x⟩, by omega, by omega⟩
    obtain ⟨hp, hn16, hk60⟩ := hok
    obtain ⟨v1, v2⟩ := (show 1 ≤ p.id ∧ p.id ≤ 16 from hp.1)
    obtain ⟨n, hn⟩ : ∃ n : Nat, p.id = n := ⟨p.id.toNat, by omega⟩
    refine LoopVC.inv (X := Nat × Dsk × List Pg) (fun x => x.1 ≤ pages.length ∧ Was x.2.1 x.2.2)
      (fun x => stL [(2, .c (.int .u8 most.toNat)), (3, .c (slL 1 intE keep)), (5, .va 5 0 0), (9, .va 9 0 0), (11, .ra 11 0 3 0 0), (59, .c (slL 3 pgE pages)), (60, .c (.int .i64 pages.length)), (61, .c (.int .i64 x.1))]
        [(5, vE [.c (.int .i64 p.id), .c (.int .i64 p.version), .c (.str p.body)]), (9, vE [.c (slL 1 strE x.2.1.secs), .c (slL 2 wrE x.2.1.cache)]), (11, ⟨3, 17, .dat fun r j => pgE (x.2.2.getD r default) j, false, true⟩)]) (fun x => pages.length - x.1) ⟨0, D35, List.replicate 17 default⟩ ⟨Nat.zero_le _, Was.start⟩ ?_ ?_
    · (refine Le.of ?_ ?_ <;> repeat' first | exact trivial | exact CEq.refl _ | exact rfl | exact cI (by push_cast; first | rfl | omega) | exact SubE.dat fun _ _ _ _ => CEq.refl _ | refine SubE.var2 ?_ ?_ | refine SubE.var1 ?_ | refine SubE.var3 ?_ ?_ ?_ | refine SubE.var4 ?_ ?_ ?_ ?_ | refine SubE.var5 ?_ ?_ ?_ ?_ ?_ | refine Exists.intro _ (And.intro rfl ?_) | refine And.intro ?_ ?_)
      exact ⟨rfl, rfl, id, id, fun i hi j hj => by
        have hi : i < 17 := hi
        have e : (List.replicate 17 (default : Pg)).getD i default = default := by rw [getD_eq (by simp; omega)]; exact List.getElem_replicate ..
        show SubV _ _ (.c (pgE ((List.replicate 17 (default : Pg)).getD i default) j))
        rw [e]
        have hj : j < 3 := hj
        rcases (show j = 0 ∨ j = 1 ∨ j = 2 by omega) with rfl | rfl | rfl <;> exact CEq.refl _⟩
    rintro Q hQ ⟨i, d, was⟩ ⟨hi, I⟩
    have hi : i ≤ pages.length := hi
    have I : Was d was := I
    dsimp only
    repeat' first
      | (with_reducible first | refine NeedI.mk (fun h => h) ?_ | refine NeedI.mk (fun h => h.2) ?_ | refine NeedI.mk (fun h => h.1) ?_ | exact Done.mk | refine Both.mk (fun _ => ?_) (fun _ => ?_) | refine Both2.mk (fun _ => ?_) ?_ | refine Need.mk (by first | omega | with_reducible exact CEq.refl _ | (dsimp only; omega) | (dsimp only [rng]; omega) | (simp only [decide_eq_true_eq, decide_eq_false_iff_not, Bool.or_eq_true, Bool.and_eq_true, Bool.or_eq_false_iff, Int.toNat_natCast, addN_eq, cond_false, cond_true, rng] at *; omega) | exact ⟨rfl, rfl⟩) ?_)
      | ((with_reducible refine Need.mk ?_ ?_); exact CEq.refl _)
      | ((with_reducible fail_if_success first | refine LoopVC.mk ?_ | refine Need.mk ?_ ?_ | refine CallVC.mk ?_ | refine LoopEnd.mk ?_ | refine Out.mk ?_ | show False | refine NeedI.mk ?_ ?_); conv => whnf)
    · rename_i h3
      have h3 : (i : Int) < pages.length := of_decide_eq_true h3
      have hbl := hpb _ (getD_mem (show i < pages.length by omega))
      rw [Int.toNat_natCast]
      generalize pages.getD i default = q at *
      refine CallVC.mk' (fun _ => S02.rright_ok R2.m R2.right q hbl) (fun _ => .cons ((.many fun j hj => by (rcases (show j = 0 ∨ j = 1 ∨ j = 2 by omega) with rfl | rfl | rfl <;> exact CEq.refl _))) .nil) ?_
      repeat' first
        | (with_reducible first | refine NeedI.mk (fun h => h) ?_ | refine NeedI.mk (fun h => h.2) ?_ | refine NeedI.mk (fun h => h.1) ?_ | exact Done.mk | refine Both.mk (fun _ => ?_) (fun _ => ?_) | refine Both2.mk (fun _ => ?_) ?_ | refine Need.mk (by first | omega | with_reducible exact CEq.refl _ | (dsimp only; omega) | (dsimp only [rng]; omega) | (simp only [decide_eq_true_eq, decide_eq_false_iff_not, Bool.or_eq_true, Bool.and_eq_true, Bool.or_eq_false_iff, Int.toNat_natCast, addN_eq, cond_false, cond_true, rng] at *; omega) | exact ⟨rfl, rfl⟩) ?_)
        | ((with_reducible refine Need.mk ?_ ?_); exact CEq.refl _)
        | ((with_reducible fail_if_success first | refine LoopVC.mk ?_ | refine Need.mk ?_ ?_ | refine CallVC.mk ?_ | refine LoopEnd.mk ?_ | refine Out.mk ?_ | show False | refine NeedI.mk ?_ ?_); conv => whnf)
      refine Need.mk (fun hr => by have hr : S02.right q := (by simpa using hr); have := hr.1; omega) ?_
      repeat' first
        | (with_reducible first | refine NeedI.mk (fun h => h) ?_ | refine NeedI.mk (fun h => h.2) ?_ | refine NeedI.mk (fun h => h.1) ?_ | exact Done.mk | refine Both.mk (fun _ => ?_) (fun _ => ?_) | refine Both2.mk (fun _ => ?_) ?_ | refine Need.mk (by first | omega | with_reducible exact CEq.refl _ | (dsimp only; omega) | (dsimp only [rng]; omega) | (simp only [decide_eq_true_eq, decide_eq_false_iff_not, Bool.or_eq_true, Bool.and_eq_true, Bool.or_eq_false_iff, Int.toNat_natCast, addN_eq, cond_false, cond_true, rng] at *; omega) | exact ⟨rfl, rfl⟩) ?_)
        | ((with_reducible refine Need.mk ?_ ?_); exact CEq.refl _)
        | ((with_reducible fail_if_success first | refine LoopVC.mk ?_ | refine Need.mk ?_ ?_ | refine CallVC.mk ?_ | refine LoopEnd.mk ?_ | refine Out.mk ?_ | show False | refine NeedI.mk ?_ ?_); conv => whnf)
      refine Need.mk (fun hr => by have hr : S02.right q := (by simpa using hr); have := hr.1; show q.id.toNat < 17; omega) ?_
      repeat' first
        | (with_reducible first | refine NeedI.mk (fun h => h) ?_ | refine NeedI.mk (fun h => h.2) ?_ | refine NeedI.mk (fun h => h.1) ?_ | exact Done.mk | refine Both.mk (fun _ => ?_) (fun _ => ?_) | refine Both2.mk (fun _ => ?_) ?_ | refine Need.mk (by first | omega | with_reducible exact CEq.refl _ | (dsimp only; omega) | (dsimp only [rng]; omega) | (simp only [decide_eq_true_eq, decide_eq_false_iff_not, Bool.or_eq_true, Bool.and_eq_true, Bool.or_eq_false_iff, Int.toNat_natCast, addN_eq, cond_false, cond_true, rng] at *; omega) | exact ⟨rfl, rfl⟩) ?_)
        | ((with_reducible refine Need.mk ?_ ?_); exact CEq.refl _)
        | ((with_reducible fail_if_success first | refine LoopVC.mk ?_ | refine Need.mk ?_ ?_ | refine CallVC.mk ?_ | refine LoopEnd.mk ?_ | refine Out.mk ?_ | show False | refine NeedI.mk ?_ ?_); conv => whnf)
      · refine CallVC.mk' (fun _ => awake_ok K) (fun _ => .nil) ?_
        repeat' first
          | (with_reducible first | refine NeedI.mk (fun h => h) ?_ | refine NeedI.mk (fun h => h.2) ?_ | refine NeedI.mk (fun h => h.1) ?_ | exact Done.mk | refine Both.mk (fun _ => ?_) (fun _ => ?_) | refine Both2.mk (fun _ => ?_) ?_ | refine Need.mk (by first | omega | with_reducible exact CEq.refl _ | (dsimp only; omega) | (dsimp only [rng]; omega) | (simp only [decide_eq_true_eq, decide_eq_false_iff_not, Bool.or_eq_true, Bool.and_eq_true, Bool.or_eq_false_iff, Int.toNat_natCast, addN_eq, cond_false, cond_true, rng] at *; omega) | exact ⟨rfl, rfl⟩) ?_)
          | ((with_reducible refine Need.mk ?_ ?_); exact CEq.refl _)
          | ((with_reducible fail_if_success first | refine LoopVC.mk ?_ | refine Need.mk ?_ ?_ | refine CallVC.mk ?_ | refine LoopEnd.mk ?_ | refine Out.mk ?_ | show False | refine NeedI.mk ?_ ?_); conv => whnf)
        refine Out.mk (hQ _ _ ?_)
        repeat' first
          | (with_reducible first | refine NeedI.mk (fun h => h) ?_ | refine NeedI.mk (fun h => h.2) ?_ | refine NeedI.mk (fun h => h.1) ?_ | exact Done.mk | refine Both.mk (fun _ => ?_) (fun _ => ?_) | refine Both2.mk (fun _ => ?_) ?_ | refine Need.mk (by first | omega | with_reducible exact CEq.refl _ | (dsimp only; omega) | (dsimp only [rng]; omega) | (simp only [decide_eq_true_eq, decide_eq_false_iff_not, Bool.or_eq_true, Bool.and_eq_true, Bool.or_eq_false_iff, Int.toNat_natCast, addN_eq, cond_false, cond_true, rng] at *; omega) | exact ⟨rfl, rfl⟩) ?_)
          | ((with_reducible refine Need.mk ?_ ?_); exact CEq.refl _)
          | ((with_reducible fail_if_success first | refine LoopVC.mk ?_ | refine Need.mk ?_ ?_ | refine CallVC.mk ?_ | refine LoopEnd.mk ?_ | refine Out.mk ?_ | show False | refine NeedI.mk ?_ ?_); conv => whnf)
      · rename_i h4
        have hr : S02.right q := by simp at h4; exact h4.1
        obtain ⟨u1, u2⟩ := hr.1
        obtain ⟨m, hm⟩ : ∃ m : Nat, q.id = m := ⟨q.id.toNat, by omega⟩
        refine CallVC.mk' (fun _ => sset_ok K.s d q I.c.small hbl) (fun _ => .cons ((.many fun j hj => by (rcases (show j = 0 ∨ j = 1 by omega) with rfl | rfl <;> exact CEq.refl _))) (.cons ((.many fun j hj => by (rcases (show j = 0 ∨ j = 1 ∨ j = 2 by omega) with rfl | rfl | rfl <;> exact CEq.refl _))) .nil)) ?_
        have I2 := I.set hr hm
        rw [(set_cal I.k.c hr).2.1]
        have hnn : q.id.toNat = m := by rw [hm]; exact Int.toNat_natCast m
        rw [← hnn] at I2
        generalize hw : was.set q.id.toNat q = w2 at I2
        generalize sset d q = d2 at *
        repeat' first
          | (with_reducible first | refine NeedI.mk (fun h => h) ?_ | refine NeedI.mk (fun h => h.2) ?_ | refine NeedI.mk (fun h => h.1) ?_ | exact Done.mk | refine Both.mk (fun _ => ?_) (fun _ => ?_) | refine Both2.mk (fun _ => ?_) ?_ | refine Need.mk (by first | omega | with_reducible exact CEq.refl _ | (dsimp only; omega) | (dsimp only [rng]; omega) | (simp only [decide_eq_true_eq, decide_eq_false_iff_not, Bool.or_eq_true, Bool.and_eq_true, Bool.or_eq_false_iff, Int.toNat_natCast, addN_eq, cond_false, cond_true, rng] at *; omega) | exact ⟨rfl, rfl⟩) ?_)
          | ((with_reducible refine Need.mk ?_ ?_); exact CEq.refl _)
          | ((with_reducible fail_if_success first | refine LoopVC.mk ?_ | refine Need.mk ?_ ?_ | refine CallVC.mk ?_ | refine LoopEnd.mk ?_ | refine Out.mk ?_ | show False | refine NeedI.mk ?_ ?_); conv => whnf)
        · rename_i h; exfalso; simp at h
        · skip
          refine LoopEnd.mk ⟨(i + 1, d2, w2), ⟨by dsimp only; omega, I2⟩, by dsimp only; omega, ?_⟩
          (refine Le.of ?_ ?_ <;> repeat' first | exact trivial | exact CEq.refl _ | exact rfl | exact cI (by push_cast; first | rfl | omega) | exact SubE.dat fun _ _ _ _ => CEq.refl _ | refine SubE.var2 ?_ ?_ | refine SubE.var1 ?_ | refine SubE.var3 ?_ ?_ ?_ | refine SubE.var4 ?_ ?_ ?_ ?_ | refine SubE.var5 ?_ ?_ ?_ ?_ ?_ | refine Exists.intro _ (And.intro rfl ?_) | refine And.intro ?_ ?_)
          subst hw
          exact (IsL.refl.upd3 (CEq.refl _) (CEq.refl _) (CEq.refl _)).sub I2.k.n.symm
    · skip
      refine Out.mk (hQ _ _ ?_)
      repeat' first
        | (with_reducible first | refine NeedI.mk (fun h => h) ?_ | refine NeedI.mk (fun h => h.2) ?_ | refine NeedI.mk (fun h => h.1) ?_ | exact Done.mk | refine Both.mk (fun _ => ?_) (fun _ => ?_) | refine Both2.mk (fun _ => ?_) ?_ | refine Need.mk (by first | omega | with_reducible exact CEq.refl _ | (dsimp only; omega) | (dsimp only [rng]; omega) | (simp only [decide_eq_true_eq, decide_eq_false_iff_not, Bool.or_eq_true, Bool.and_eq_true, Bool.or_eq_false_iff, Int.toNat_natCast, addN_eq, cond_false, cond_true, rng] at *; omega) | exact ⟨rfl, rfl⟩) ?_)
        | ((with_reducible refine Need.mk ?_ ?_); exact CEq.refl _)
        | ((with_reducible fail_if_success first | refine LoopVC.mk ?_ | refine Need.mk ?_ ?_ | refine CallVC.mk ?_ | refine LoopEnd.mk ?_ | refine Out.mk ?_ | show False | refine NeedI.mk ?_ ?_); conv => whnf)
      have hl10 := ssteps_len d p
      refine CallVC.mk' (fun _ => ssteps_ok K.s d p I.c.small hpl) (fun _ => .cons ((.many fun j hj => by (rcases (show j = 0 ∨ j = 1 by omega) with rfl | rfl <;> exact CEq.refl _))) (.cons ((.many fun j hj => by (rcases (show j = 0 ∨ j = 1 ∨ j = 2 by omega) with rfl | rfl | rfl <;> exact CEq.refl _))) .nil)) ?_
      repeat' first
        | (with_reducible first | refine NeedI.mk (fun h => h) ?_ | refine NeedI.mk (fun h => h.2) ?_ | refine NeedI.mk (fun h => h.1) ?_ | exact Done.mk | refine Both.mk (fun _ => ?_) (fun _ => ?_) | refine Both2.mk (fun _ => ?_) ?_ | refine Need.mk (by first | omega | with_reducible exact CEq.refl _ | (dsimp only; omega) | (dsimp only [rng]; omega) | (simp only [decide_eq_true_eq, decide_eq_false_iff_not, Bool.or_eq_true, Bool.and_eq_true, Bool.or_eq_false_iff, Int.toNat_natCast, addN_eq, cond_false, cond_true, rng] at *; omega) | exact ⟨rfl, rfl⟩) ?_)
        | ((with_reducible refine Need.mk ?_ ?_); exact CEq.refl _)
        | ((with_reducible fail_if_success first | refine LoopVC.mk ?_ | refine Need.mk ?_ ?_ | refine CallVC.mk ?_ | refine LoopEnd.mk ?_ | refine Out.mk ?_ | show False | refine NeedI.mk ?_ ?_); conv => whnf)
      obtain ⟨k, hk⟩ : ∃ k : Nat, (most.toNat : Int) % 12 = (k : Int) := ⟨most.toNat % 12, by push_cast; rfl⟩
      rw [hk]
      refine CallVC.mk' (fun _ => run_ok K.s.j.k K.s.j.run d (ssteps d p) k I.c.small (by omega) ssteps_data) (fun _ => .cons ((.many fun j hj => by (rcases (show j = 0 ∨ j = 1 by omega) with rfl | rfl <;> exact CEq.refl _))) (.cons (.one (CEq.refl _)) (.cons (.one (CEq.refl _)) .nil))) ?_
      rw [show run d (ssteps d p) k = runL d ((ssteps d p).take k) by unfold run; rw [Int.toNat_natCast]]
      obtain ⟨r1, r2, u3, hg⟩ := store_cut (k := k) (keep := keep) I hp hn
      generalize runL d ((ssteps d p).take k) = d2 at *
      repeat' first
        | (with_reducible first | refine NeedI.mk (fun h => h) ?_ | refine NeedI.mk (fun h => h.2) ?_ | refine NeedI.mk (fun h => h.1) ?_ | exact Done.mk | refine Both.mk (fun _ => ?_) (fun _ => ?_) | refine Both2.mk (fun _ => ?_) ?_ | refine Need.mk (by first | omega | with_reducible exact CEq.refl _ | (dsimp only; omega) | (dsimp only [rng]; omega) | (simp only [decide_eq_true_eq, decide_eq_false_iff_not, Bool.or_eq_true, Bool.and_eq_true, Bool.or_eq_false_iff, Int.toNat_natCast, addN_eq, cond_false, cond_true, rng] at *; omega) | exact ⟨rfl, rfl⟩) ?_)
        | ((with_reducible refine Need.mk ?_ ?_); exact CEq.refl _)
        | ((with_reducible fail_if_success first | refine LoopVC.mk ?_ | refine Need.mk ?_ ?_ | refine CallVC.mk ?_ | refine LoopEnd.mk ?_ | refine Out.mk ?_ | show False | refine NeedI.mk ?_ ?_); conv => whnf)
      refine CallVC.mk' (fun _ => crash_ok K.s.j.k d2 keep r1.small (by omega)) (fun _ => .cons ((.many fun j hj => by (rcases (show j = 0 ∨ j = 1 by omega) with rfl | rfl <;> exact CEq.refl _))) (.cons (.one (CEq.refl _)) .nil)) ?_
      generalize d2.crash keep = d3 at *
      repeat' first
        | (with_reducible first | refine NeedI.mk (fun h => h) ?_ | refine NeedI.mk (fun h => h.2) ?_ | refine NeedI.mk (fun h => h.1) ?_ | exact Done.mk | refine Both.mk (fun _ => ?_) (fun _ => ?_) | refine Both2.mk (fun _ => ?_) ?_ | refine Need.mk (by first | omega | with_reducible exact CEq.refl _ | (dsimp only; omega) | (dsimp only [rng]; omega) | (simp only [decide_eq_true_eq, decide_eq_false_iff_not, Bool.or_eq_true, Bool.and_eq_true, Bool.or_eq_false_iff, Int.toNat_natCast, addN_eq, cond_false, cond_true, rng] at *; omega) | exact ⟨rfl, rfl⟩) ?_)
        | ((with_reducible refine Need.mk ?_ ?_); exact CEq.refl _)
        | ((with_reducible fail_if_success first | refine LoopVC.mk ?_ | refine Need.mk ?_ ?_ | refine CallVC.mk ?_ | refine LoopEnd.mk ?_ | refine Out.mk ?_ | show False | refine NeedI.mk ?_ ?_); conv => whnf)
      refine CallVC.mk' (fun _ => recover_ok K.s.j d3 r2.small) (fun _ => .cons ((.many fun j hj => by (rcases (show j = 0 ∨ j = 1 by omega) with rfl | rfl <;> exact CEq.refl _))) .nil) ?_
      generalize recover d3 = e at *
      repeat' first
        | (with_reducible first | refine NeedI.mk (fun h => h) ?_ | refine NeedI.mk (fun h => h.2) ?_ | refine NeedI.mk (fun h => h.1) ?_ | exact Done.mk | refine Both.mk (fun _ => ?_) (fun _ => ?_) | refine Both2.mk (fun _ => ?_) ?_ | refine Need.mk (by first | omega | with_reducible exact CEq.refl _ | (dsimp only; omega) | (dsimp only [rng]; omega) | (simp only [decide_eq_true_eq, decide_eq_false_iff_not, Bool.or_eq_true, Bool.and_eq_true, Bool.or_eq_false_iff, Int.toNat_natCast, addN_eq, cond_false, cond_true, rng] at *; omega) | exact ⟨rfl, rfl⟩) ?_)
        | ((with_reducible refine Need.mk ?_ ?_); exact CEq.refl _)
        | ((with_reducible fail_if_success first | refine LoopVC.mk ?_ | refine Need.mk ?_ ?_ | refine CallVC.mk ?_ | refine LoopEnd.mk ?_ | refine Out.mk ?_ | show False | refine NeedI.mk ?_ ?_); conv => whnf)
      · rename_i h5
        have ht : toP p = default := if_pos (of_decide_eq_true h5)
        refine LoopVC.inv (fun i : Nat => i ≤ 16) (fun i => stL [(5, .va 5 0 0), (9, .va 9 0 0), (11, .ra 11 0 3 0 0), (16, .c (.int .i64 k)), (17, .va 17 0 0), (18, .c (.int .i64 (i + 1)))]
          [(5, vE [.c (.int .i64 p.id), .c (.int .i64 p.version), .c (.str p.body)]), (9, vE [.c (slL 1 strE e.secs), .c (slL 2 wrE e.cache)]), (11, ⟨3, 17, .dat fun r j => pgE (was.getD r default) j, false, true⟩), (17, vE [.c (.int .i64 (toP p).id), .c (.int .i64 (toP p).version), .c (.str (toP p).body)])]) (fun i => 16 - i) 0 (Nat.zero_le _) ?_ ?_
        · rw [ht]
          (refine Le.of ?_ ?_ <;> repeat' first | exact trivial | exact CEq.refl _ | exact rfl | exact cI (by push_cast; first | rfl | omega) | exact SubE.dat fun _ _ _ _ => CEq.refl _ | refine SubE.var2 ?_ ?_ | refine SubE.var1 ?_ | refine SubE.var3 ?_ ?_ ?_ | refine SubE.var4 ?_ ?_ ?_ ?_ | refine SubE.var5 ?_ ?_ ?_ ?_ ?_ | refine Exists.intro _ (And.intro rfl ?_) | refine And.intro ?_ ?_)
        rintro Q2 hQ2 z hz
        repeat' first
          | (with_reducible first | refine NeedI.mk (fun h => h) ?_ | refine NeedI.mk (fun h => h.2) ?_ | refine NeedI.mk (fun h => h.1) ?_ | exact Done.mk | refine Both.mk (fun _ => ?_) (fun _ => ?_) | refine Both2.mk (fun _ => ?_) ?_ | refine Need.mk (by first | omega | with_reducible exact CEq.refl _ | (dsimp only; omega) | (dsimp only [rng]; omega) | (simp only [decide_eq_true_eq, decide_eq_false_iff_not, Bool.or_eq_true, Bool.and_eq_true, Bool.or_eq_false_iff, Int.toNat_natCast, addN_eq, cond_false, cond_true, rng] at *; omega) | exact ⟨rfl, rfl⟩) ?_)
          | ((with_reducible refine Need.mk ?_ ?_); exact CEq.refl _)
          | ((with_reducible fail_if_success first | refine LoopVC.mk ?_ | refine Need.mk ?_ ?_ | refine CallVC.mk ?_ | refine LoopEnd.mk ?_ | refine Out.mk ?_ | show False | refine NeedI.mk ?_ ?_); conv => whnf)
        · rename_i h4
          have h4 : ((z : Int) + 1) ≤ 16 := of_decide_eq_true h4
          refine CallVC.mk' (fun _ => sget_ok K.s e ((z + 1 : Nat) : Int) u3.1.small) (fun _ => .cons ((.many fun j hj => by (rcases (show j = 0 ∨ j = 1 by omega) with rfl | rfl <;> exact CEq.refl _))) (.cons (.one (eI (by push_cast; rfl))) .nil)) ?_
          have hg1 := hg (z + 1) (by omega) (by omega)
          generalize sget e ((z + 1 : Nat) : Int) = g at *
          repeat' first
            | (with_reducible first | refine NeedI.mk (fun h => h) ?_ | refine NeedI.mk (fun h => h.2) ?_ | refine NeedI.mk (fun h => h.1) ?_ | exact Done.mk | refine Both.mk (fun _ => ?_) (fun _ => ?_) | refine Both2.mk (fun _ => ?_) ?_ | refine Need.mk (by first | omega | with_reducible exact CEq.refl _ | (dsimp only; omega) | (dsimp only [rng]; omega) | (simp only [decide_eq_true_eq, decide_eq_false_iff_not, Bool.or_eq_true, Bool.and_eq_true, Bool.or_eq_false_iff, Int.toNat_natCast, addN_eq, cond_false, cond_true, rng] at *; omega) | exact ⟨rfl, rfl⟩) ?_)
            | ((with_reducible refine Need.mk ?_ ?_); exact CEq.refl _)
            | ((with_reducible fail_if_success first | refine LoopVC.mk ?_ | refine Need.mk ?_ ?_ | refine CallVC.mk ?_ | refine LoopEnd.mk ?_ | refine Out.mk ?_ | show False | refine NeedI.mk ?_ ?_); conv => whnf)
          · rename_i h6
            exfalso
            have ez : ((z : Int) + 1).toNat = z + 1 := by omega
            rw [ez] at h6
            obtain ⟨y1, y2, y3⟩ := hg1
            simp only [cond_true, pgc, Bool.or_eq_true, Bool.and_eq_true, Bool.not_eq_true', decide_eq_false_iff_not, decide_eq_true_eq] at h6
            rcases h6 with (⟨a, b⟩ | ⟨a, b⟩) | ⟨⟨a, b⟩, c⟩
            · exact y1.elim a b
            · rcases y2 with y2 | ⟨y2, y4⟩
              · exact a y2
              · exact b.elim (fun x => x (by omega)) (fun x => x y4)
            · exact c (y3 (by omega) (by omega))
          · skip
            refine LoopEnd.mk ⟨z + 1, by omega, by omega, ?_⟩
            (refine Le.of ?_ ?_ <;> repeat' first | exact trivial | exact CEq.refl _ | exact rfl | exact cI (by push_cast; first | rfl | omega) | exact SubE.dat fun _ _ _ _ => CEq.refl _ | refine SubE.var2 ?_ ?_ | refine SubE.var1 ?_ | refine SubE.var3 ?_ ?_ ?_ | refine SubE.var4 ?_ ?_ ?_ ?_ | refine SubE.var5 ?_ ?_ ?_ ?_ ?_ | refine Exists.intro _ (And.intro rfl ?_) | refine And.intro ?_ ?_)
        · skip
          refine Out.mk (hQ2 _ _ ?_)
          repeat' first
            | (with_reducible first | refine NeedI.mk (fun h => h) ?_ | refine NeedI.mk (fun h => h.2) ?_ | refine NeedI.mk (fun h => h.1) ?_ | exact Done.mk | refine Both.mk (fun _ => ?_) (fun _ => ?_) | refine Both2.mk (fun _ => ?_) ?_ | refine Need.mk (by first | omega | with_reducible exact CEq.refl _ | (dsimp only; omega) | (dsimp only [rng]; omega) | (simp only [decide_eq_true_eq, decide_eq_false_iff_not, Bool.or_eq_true, Bool.and_eq_true, Bool.or_eq_false_iff, Int.toNat_natCast, addN_eq, cond_false, cond_true, rng] at *; omega) | exact ⟨rfl, rfl⟩) ?_)
            | ((with_reducible refine Need.mk ?_ ?_); exact CEq.refl _)
            | ((with_reducible fail_if_success first | refine LoopVC.mk ?_ | refine Need.mk ?_ ?_ | refine CallVC.mk ?_ | refine LoopEnd.mk ?_ | refine Out.mk ?_ | show False | refine NeedI.mk ?_ ?_); conv => whnf)
          refine CallVC.mk' (fun _ => awake_ok K) (fun _ => .nil) ?_
          repeat' first
            | (with_reducible first | refine NeedI.mk (fun h => h) ?_ | refine NeedI.mk (fun h => h.2) ?_ | refine NeedI.mk (fun h => h.1) ?_ | exact Done.mk | refine Both.mk (fun _ => ?_) (fun _ => ?_) | refine Both2.mk (fun _ => ?_) ?_ | refine Need.mk (by first | omega | with_reducible exact CEq.refl _ | (dsimp only; omega) | (dsimp only [rng]; omega) | (simp only [decide_eq_true_eq, decide_eq_false_iff_not, Bool.or_eq_true, Bool.and_eq_true, Bool.or_eq_false_iff, Int.toNat_natCast, addN_eq, cond_false, cond_true, rng] at *; omega) | exact ⟨rfl, rfl⟩) ?_)
            | ((with_reducible refine Need.mk ?_ ?_); exact CEq.refl _)
            | ((with_reducible fail_if_success first | refine LoopVC.mk ?_ | refine Need.mk ?_ ?_ | refine CallVC.mk ?_ | refine LoopEnd.mk ?_ | refine Out.mk ?_ | show False | refine NeedI.mk ?_ ?_); conv => whnf)
      · rename_i h5
        have ht : toP p = p := if_neg (of_decide_eq_false h5)
        refine LoopVC.inv (fun i : Nat => i ≤ 16) (fun i => stL [(5, .va 5 0 0), (9, .va 9 0 0), (11, .ra 11 0 3 0 0), (16, .c (.int .i64 k)), (17, .va 17 0 0), (18, .c (.int .i64 (i + 1)))]
          [(5, vE [.c (.int .i64 p.id), .c (.int .i64 p.version), .c (.str p.body)]), (9, vE [.c (slL 1 strE e.secs), .c (slL 2 wrE e.cache)]), (11, ⟨3, 17, .dat fun r j => pgE (was.getD r default) j, false, true⟩), (17, vE [.c (.int .i64 (toP p).id), .c (.int .i64 (toP p).version), .c (.str (toP p).body)])]) (fun i => 16 - i) 0 (Nat.zero_le _) ?_ ?_
        · rw [ht]
          (refine Le.of ?_ ?_ <;> repeat' first | exact trivial | exact CEq.refl _ | exact rfl | exact cI (by push_cast; first | rfl | omega) | exact SubE.dat fun _ _ _ _ => CEq.refl _ | refine SubE.var2 ?_ ?_ | refine SubE.var1 ?_ | refine SubE.var3 ?_ ?_ ?_ | refine SubE.var4 ?_ ?_ ?_ ?_ | refine SubE.var5 ?_ ?_ ?_ ?_ ?_ | refine Exists.intro _ (And.intro rfl ?_) | refine And.intro ?_ ?_)
        rintro Q2 hQ2 z hz
        repeat' first
          | (with_reducible first | refine NeedI.mk (fun h => h) ?_ | refine NeedI.mk (fun h => h.2) ?_ | refine NeedI.mk (fun h => h.1) ?_ | exact Done.mk | refine Both.mk (fun _ => ?_) (fun _ => ?_) | refine Both2.mk (fun _ => ?_) ?_ | refine Need.mk (by first | omega | with_reducible exact CEq.refl _ | (dsimp only; omega) | (dsimp only [rng]; omega) | (simp only [decide_eq_true_eq, decide_eq_false_iff_not, Bool.or_eq_true, Bool.and_eq_true, Bool.or_eq_false_iff, Int.toNat_natCast, addN_eq, cond_false, cond_true, rng] at *; omega) | exact ⟨rfl, rfl⟩) ?_)
          | ((with_reducible refine Need.mk ?_ ?_); exact CEq.refl _)
          | ((with_reducible fail_if_success first | refine LoopVC.mk ?_ | refine Need.mk ?_ ?_ | refine CallVC.mk ?_ | refine LoopEnd.mk ?_ | refine Out.mk ?_ | show False | refine NeedI.mk ?_ ?_); conv => whnf)
        · rename_i h4
          have h4 : ((z : Int) + 1) ≤ 16 := of_decide_eq_true h4
          refine CallVC.mk' (fun _ => sget_ok K.s e ((z + 1 : Nat) : Int) u3.1.small) (fun _ => .cons ((.many fun j hj => by (rcases (show j = 0 ∨ j = 1 by omega) with rfl | rfl <;> exact CEq.refl _))) (.cons (.one (eI (by push_cast; rfl))) .nil)) ?_
          have hg1 := hg (z + 1) (by omega) (by omega)
          generalize sget e ((z + 1 : Nat) : Int) = g at *
          repeat' first
            | (with_reducible first | refine NeedI.mk (fun h => h) ?_ | refine NeedI.mk (fun h => h.2) ?_ | refine NeedI.mk (fun h => h.1) ?_ | exact Done.mk | refine Both.mk (fun _ => ?_) (fun _ => ?_) | refine Both2.mk (fun _ => ?_) ?_ | refine Need.mk (by first | omega | with_reducible exact CEq.refl _ | (dsimp only; omega) | (dsimp only [rng]; omega) | (simp only [decide_eq_true_eq, decide_eq_false_iff_not, Bool.or_eq_true, Bool.and_eq_true, Bool.or_eq_false_iff, Int.toNat_natCast, addN_eq, cond_false, cond_true, rng] at *; omega) | exact ⟨rfl, rfl⟩) ?_)
            | ((with_reducible refine Need.mk ?_ ?_); exact CEq.refl _)
            | ((with_reducible fail_if_success first | refine LoopVC.mk ?_ | refine Need.mk ?_ ?_ | refine CallVC.mk ?_ | refine LoopEnd.mk ?_ | refine Out.mk ?_ | show False | refine NeedI.mk ?_ ?_); conv => whnf)
          · rename_i h6
            exfalso
            have ez : ((z : Int) + 1).toNat = z + 1 := by omega
            rw [ez] at h6
            obtain ⟨y1, y2, y3⟩ := hg1
            simp only [cond_true, pgc, Bool.or_eq_true, Bool.and_eq_true, Bool.not_eq_true', decide_eq_false_iff_not, decide_eq_true_eq] at h6
            rcases h6 with (⟨a, b⟩ | ⟨a, b⟩) | ⟨⟨a, b⟩, c⟩
            · exact y1.elim a b
            · rcases y2 with y2 | ⟨y2, y4⟩
              · exact a y2
              · exact b.elim (fun x => x (by omega)) (fun x => x y4)
            · exact c (y3 (by omega) (by omega))
          · skip
            refine LoopEnd.mk ⟨z + 1, by omega, by omega, ?_⟩
            (refine Le.of ?_ ?_ <;> repeat' first | exact trivial | exact CEq.refl _ | exact rfl | exact cI (by push_cast; first | rfl | omega) | exact SubE.dat fun _ _ _ _ => CEq.refl _ | refine SubE.var2 ?_ ?_ | refine SubE.var1 ?_ | refine SubE.var3 ?_ ?_ ?_ | refine SubE.var4 ?_ ?_ ?_ ?_ | refine SubE.var5 ?_ ?_ ?_ ?_ ?_ | refine Exists.intro _ (And.intro rfl ?_) | refine And.intro ?_ ?_)
        · skip
          refine Out.mk (hQ2 _ _ ?_)
          repeat' first
            | (with_reducible first | refine NeedI.mk (fun h => h) ?_ | refine NeedI.mk (fun h => h.2) ?_ | refine NeedI.mk (fun h => h.1) ?_ | exact Done.mk | refine Both.mk (fun _ => ?_) (fun _ => ?_) | refine Both2.mk (fun _ => ?_) ?_ | refine Need.mk (by first | omega | with_reducible exact CEq.refl _ | (dsimp only; omega) | (dsimp only [rng]; omega) | (simp only [decide_eq_true_eq, decide_eq_false_iff_not, Bool.or_eq_true, Bool.and_eq_true, Bool.or_eq_false_iff, Int.toNat_natCast, addN_eq, cond_false, cond_true, rng] at *; omega) | exact ⟨rfl, rfl⟩) ?_)
            | ((with_reducible refine Need.mk ?_ ?_); exact CEq.refl _)
            | ((with_reducible fail_if_success first | refine LoopVC.mk ?_ | refine Need.mk ?_ ?_ | refine CallVC.mk ?_ | refine LoopEnd.mk ?_ | refine Out.mk ?_ | show False | refine NeedI.mk ?_ ?_); conv => whnf)
          refine CallVC.mk' (fun _ => awake_ok K) (fun _ => .nil) ?_
          repeat' first
            | (with_reducible first | refine NeedI.mk (fun h => h) ?_ | refine NeedI.mk (fun h => h.2) ?_ | refine NeedI.mk (fun h => h.1) ?_ | exact Done.mk | refine Both.mk (fun _ => ?_) (fun _ => ?_) | refine Both2.mk (fun _ => ?_) ?_ | refine Need.mk (by first | omega | with_reducible exact CEq.refl _ | (dsimp only; omega) | (dsimp only [rng]; omega) | (simp only [decide_eq_true_eq, decide_eq_false_iff_not, Bool.or_eq_true, Bool.and_eq_true, Bool.or_eq_false_iff, Int.toNat_natCast, addN_eq, cond_false, cond_true, rng] at *; omega) | exact ⟨rfl, rfl⟩) ?_)
            | ((with_reducible refine Need.mk ?_ ?_); exact CEq.refl _)
            | ((with_reducible fail_if_success first | refine LoopVC.mk ?_ | refine Need.mk ?_ ?_ | refine CallVC.mk ?_ | refine LoopEnd.mk ?_ | refine Out.mk ?_ | show False | refine NeedI.mk ?_ ?_); conv => whnf)
end
end Lk.S13
