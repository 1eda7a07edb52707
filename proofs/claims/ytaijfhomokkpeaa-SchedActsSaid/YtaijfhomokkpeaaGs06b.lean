/-
  Gs06b: what these chapters need.
-/
import Derived.Test.YtaijfhomokkpeaaGs06a
import Derived.Test.YtaijfhomokkpeaaGs04a
set_option linter.unusedSimpArgs false
set_option maxHeartbeats 8000000
set_option maxRecDepth 100000
set_option linter.unusedVariables false
namespace Lk.S05
open Go Lk Lk.C
variable {l : Ls}
def mv (l : Ls) : Nat := (((8 - (l.list.getD (tgt l) default).deficit).toNat + 3) / 4) * l.list.length + (tgt l + l.list.length - pos l) % l.list.length + (if tgt l = pos l ∧ l.given = true then l.list.length else 0)
theorem mv_bd (h : right l) (hw : waits l) : mv l ≤ 24 := by
  have hj : tgt l < l.list.length := (waits_fst l).2 hw
  have hd := (h.2.2 _ hj).2.1.1
  have h6 := h.1.2
  have hm : (tgt l + l.list.length - pos l) % l.list.length < l.list.length := Nat.mod_lt _ (by omega)
  have h2 : ((8 - (l.list.getD (tgt l) default).deficit).toNat + 3) / 4 ≤ 2 := by omega
  have h3 : (((8 - (l.list.getD (tgt l) default).deficit).toNat + 3) / 4) * l.list.length ≤ 2 * 6 := Nat.mul_le_mul h2 h6
  unfold mv
  split <;> omega
theorem adv_mv {d : Int} (h : right l) (hw : waits l) (h1 : 0 ≤ d) (hc : (cur l).costs = [] ∨ (d < 8 ∧ d = gv l)) : mv (adv l d) < mv l := by
  have hp := h.pos
  have hj : tgt l < l.list.length := (waits_fst l).2 hw
  have hjc : 0 < (l.list.getD (tgt l) default).costs.length := of_decide_eq_true (fstN_at hj)
  have hgf : ¬ (tgt l = pos (adv l d) ∧ (adv l d).given = true) := fun x => absurd x.2 (by show ¬ (false = true); decide)
  unfold mv
  rw [adv_tgt, adv_len, adv_pos h, adv_pos h |>.symm, if_neg hgf, adv_pos h, adv_at hj]
  generalize hn : l.list.length = n at *
  by_cases e : tgt l = S05.pos l
  · rw [if_pos e]
    have hcne : (cur l).costs ≠ [] := fun x => by
      rw [e] at hjc
      have : (cur l).costs.length = 0 := by rw [x]; rfl
      unfold S05.cur at this; omega
    obtain ⟨hd8, hdg⟩ := hc.resolve_left hcne
    have hcd : l.list.getD (tgt l) default = cur l := by rw [e]; rfl
    rw [hcd]
    have hcok := h.cur
    have hmod : (tgt l + n - (S05.pos l + 1) % n) % n < n := Nat.mod_lt _ (by omega)
    cases hg : l.given with
    | true =>
      rw [if_pos ⟨e, rfl⟩]
      have : gv l = (cur l).deficit := if_pos hg
      have e3 : (8 - d).toNat = (8 - (cur l).deficit).toNat := by omega
      show (((8 - d).toNat + 3) / 4) * n + _ + 0 < _
      rw [e3]; omega
    | false =>
      rw [if_neg (fun x => absurd x.2 (by decide))]
      have hgv : gv l = (cur l).deficit + (cur l).weight * 4 := if_neg (by rw [hg]; decide)
      have hw1 := hcok.1.1
      have e3 : ((8 - d).toNat + 3) / 4 + 1 ≤ ((8 - (cur l).deficit).toNat + 3) / 4 := by omega
      show (((8 - d).toNat + 3) / 4) * n + _ + 0 < _
      have e4 : (((8 - d).toNat + 3) / 4 + 1) * n ≤ (((8 - (cur l).deficit).toNat + 3) / 4) * n := Nat.mul_le_mul_right n e3
      rw [Nat.add_mul] at e4
      omega
  · rw [if_neg e, if_neg (fun x => e x.1)]
    have := mod_step (j := tgt l) (a := S05.pos l) (n := n) (by omega) hj e
    omega
theorem turn_mv {m : Ls} (h : right l) (hw : waits l) (ht : turn l = (m, none)) : mv m < mv l := by
  unfold turn at ht
  split at ht
  · rename_i hc
    obtain rfl : adv l 0 = m := congrArg Prod.fst ht
    exact adv_mv h hw (by decide) (.inl hc)
  · rename_i hc
    split at ht
    · obtain rfl : adv l (gv l) = m := congrArg Prod.fst ht
      have hg := gv_bd h
      have hh := hd_bd h hc
      exact adv_mv h hw (by omega) (.inr ⟨by omega, rfl⟩)
    · cases congrArg Prod.snd ht
theorem at_step (h : right l) : (l.at_ + 1) % (l.list.length : Int) = if l.at_ + 1 = l.list.length then 0 else l.at_ + 1 := by
  have := h.2.1
  by_cases e : l.at_ + 1 = l.list.length
  · rw [if_pos e, e, Int.emod_self]
  · rw [if_neg e]; exact Int.emod_eq_of_lt (by omega) (by omega)
theorem set_cur (h : right l) : l.list.set (pos l) (cur l) = l.list := by
  have hp := h.pos.1
  refine List.ext_getElem (List.length_set ..) fun i h1 h2 => ?_
  rw [List.getElem_set]
  split
  · rename_i e; subst e; unfold S05.cur; rw [getD_eq hp]
  · rfl
end Lk.S05
namespace Lk.S06
open Go Lk Lk.C Lk.S03 Lk.S04
def lV (l : S05.Ls) : Ent := vE [.c (slL 3 S05.lnE l.list), .c (.int .i64 l.at_), .c (.bool l.given)]
def xV (x : S05.Ln) : Ent := vE [.c (.int .i64 x.weight), .c (.int .i64 x.deficit), .c (slL 1 S05.intE x.costs)]
section
variable {P : Program} {F : Nat → Nat}
theorem rwith_ok (K : KR6 P F) (l : S05.Ls) (a : Nat) (x : S05.Ln) (h1 : l.list.length ≤ 6) : FnOk P (F 204) [.many 3 (S05.lsE l), .one (.int .i64 (a : Int)), .many 3 (S05.lnE x)] [.many 3 (fun j => .im (S05.lsE ⟨l.list.set a x, l.at_, l.given⟩ j))] := by
  refine fnOk K.m K.with_ ?_
  repeat' first | (with_reducible first | refine wkI ?_ | exact ⟨⟩ | refine wkB (fun _ => ?_) fun _ => ?_ | refine wkT (fun _ => ?_) ?_) | ((with_reducible refine wkC ?_ ?_); exact CEq.refl _) | (with_reducible refine wkL ?_) | ((with_reducible fail_if_success first | constructor | show False); conv => whnf)
  have hs : ∀ i, i < l.list.length → (l.list.set a x).getD i default = if i = a then x else l.list.getD i default := fun i hi => setL_getD hi
  have hl : (l.list.set a x).length = l.list.length := List.length_set
  generalize l.list.set a x = L at *
  refine LoopVC.inv (fun i : Nat => i ≤ l.list.length) (fun i => stL [(1, .c (.int .i64 (a : Int))), (3, .va 3 0 0), (5, .va 5 0 0), (6, .va 6 0 0), (7, .va 7 0 0), (8, .c (.int .i64 i))]
    [(3, lV l), (5, xV x), (6, vE [.nil 3, .c (.int .i64 0), .c (.bool false)]), (7, vE [.os 28 0 3 0 i, .c (.int .i64 l.at_), .c (.bool l.given)]), (28, ⟨3, i, .dat fun r j => S05.lnE (L.getD r default) j, false, true⟩)]) (fun i => l.list.length - i) 0 (Nat.zero_le _) ?_ ?_
  · (refine Le.ofN [28] ?_ ?_ <;> repeat' first | exact trivial | exact SubF.inr ⟨_, _, _, rfl, rfl, rfl⟩ | exact SubF.inl (cI (by push_cast; first | rfl | omega)) | exact SubF.inl (CEq.refl _) | exact SubF.inl rfl | exact SubF.inl trivial | exact SubF.inl ⟨rfl, rfl, rfl⟩ | exact SubF.inl ⟨rfl, rfl, rfl, rfl, rfl⟩ | exact Or.inl ⟨rfl, rfl⟩ | refine Or.inr ⟨rfl, _, rfl, ?_⟩ | refine SubEF.var2 ?_ ?_ | refine SubEF.var1 ?_ | refine SubEF.var3 ?_ ?_ ?_ | refine SubEF.varN ?_ | refine SubEF.var4 ?_ ?_ ?_ ?_ | exact SubEF.of (SubE.dat fun _ _ _ _ => CEq.refl _) | refine And.intro ?_ ?_ | refine SubF.frz rfl rfl rfl rfl (Nat.le_of_eq (Nat.zero_add _)) rfl rfl ?_)
  rintro Q hQ i hi
  repeat' first | (with_reducible first | refine wkI ?_ | exact ⟨⟩ | refine wkB (fun _ => ?_) fun _ => ?_ | refine wkT (fun _ => ?_) ?_) | ((with_reducible refine wkC ?_ ?_); exact CEq.refl _) | (with_reducible refine wkL ?_) | ((with_reducible fail_if_success first | constructor | show False); conv => whnf)
  · rename_i g1 g2
    have g1 : i < l.list.length := by have := of_decide_eq_true g1; omega
    have g2 : i = a := by have := of_decide_eq_true g2; omega
    repeat' first | (with_reducible first | refine wkI ?_ | exact ⟨⟩ | refine wkB (fun _ => ?_) fun _ => ?_ | refine wkT (fun _ => ?_) ?_) | ((with_reducible refine wkC ?_ ?_); exact CEq.refl _) | (with_reducible refine wkL ?_) | ((with_reducible fail_if_success first | constructor | show False); conv => whnf)
    refine LoopEnd.mk ⟨i + 1, g1, by omega, ?_⟩
    clear hQ
    (refine Le.of ?_ ?_ <;> repeat' first | exact trivial | exact CEq.refl _ | exact rfl | exact cI (by push_cast; first | rfl | omega) | exact SubE.dat fun _ _ _ _ => CEq.refl _ | refine SubE.varN ?_ | refine Exists.intro _ (And.intro rfl ?_) | refine And.intro ?_ ?_)
    refine SubE.dat (app_row (enc := S05.lnE) (L := L) fun j hj => ?_)
    rw [hs i g1, if_pos g2]
    have hj : j < 3 := hj
    rcases (show j = 0 ∨ j = 1 ∨ j = 2 by omega) with rfl | rfl | rfl <;> exact CEq.refl _
  · rename_i g1 g2
    have g1 : i < l.list.length := by have := of_decide_eq_true g1; omega
    have g2 : i ≠ a := by have := of_decide_eq_false g2; omega
    repeat' first | (with_reducible first | refine wkI ?_ | exact ⟨⟩ | refine wkB (fun _ => ?_) fun _ => ?_ | refine wkT (fun _ => ?_) ?_) | ((with_reducible refine wkC ?_ ?_); exact CEq.refl _) | (with_reducible refine wkL ?_) | ((with_reducible fail_if_success first | constructor | show False); conv => whnf)
    refine LoopEnd.mk ⟨i + 1, g1, by omega, ?_⟩
    clear hQ
    (refine Le.of ?_ ?_ <;> repeat' first | exact trivial | exact CEq.refl _ | exact rfl | exact cI (by push_cast; first | rfl | omega) | exact SubE.dat fun _ _ _ _ => CEq.refl _ | refine SubE.varN ?_ | refine Exists.intro _ (And.intro rfl ?_) | refine And.intro ?_ ?_)
    refine SubE.dat (app_row (enc := S05.lnE) (L := L) fun j hj => ?_)
    rw [hs i g1, if_neg g2]
    have hj : j < 3 := hj
    rcases (show j = 0 ∨ j = 1 ∨ j = 2 by omega) with rfl | rfl | rfl <;> exact CEq.refl _
  · rename_i g1
    have g1 : i = l.list.length := by have := of_decide_eq_false g1; omega
    refine Out.mk (hQ _ _ ?_)
    clear hQ
    repeat' first | (with_reducible first | refine wkI ?_ | exact ⟨⟩ | refine wkB (fun _ => ?_) fun _ => ?_ | refine wkT (fun _ => ?_) ?_) | ((with_reducible refine wkC ?_ ?_); exact CEq.refl _) | (with_reducible refine wkL ?_) | ((with_reducible fail_if_success first | constructor | show False); conv => whnf)
    refine Need.mk (IsL.ceq (l := L) (IsL.refl.off) (by omega)) ?_
    repeat' first | (with_reducible first | refine wkI ?_ | exact ⟨⟩ | refine wkB (fun _ => ?_) fun _ => ?_ | refine wkT (fun _ => ?_) ?_) | ((with_reducible refine wkC ?_ ?_); exact CEq.refl _) | (with_reducible refine wkL ?_) | ((with_reducible fail_if_success first | constructor | show False); conv => whnf)
theorem rwith_to (K : KR6 P F) (l m : S05.Ls) (a : Nat) (x : S05.Ln) (h1 : l.list.length ≤ 6) (e : m = ⟨l.list.set a x, l.at_, l.given⟩) : FnOk P (F 204) [.many 3 (S05.lsE l), .one (.int .i64 (a : Int)), .many 3 (S05.lnE x)] [.many 3 (fun j => .im (S05.lsE m j))] := by
  rw [e]; exact rwith_ok K l a x h1
theorem rover_to (K : KR6 P F) (l m : S05.Ls) (h1 : 1 ≤ l.list.length ∧ l.list.length ≤ 6) (h2 : 0 ≤ l.at_ ∧ l.at_ < l.list.length) (e : m = ⟨l.list, if l.at_ + 1 = l.list.length then 0 else l.at_ + 1, false⟩) : FnOk P (F 203) [.many 3 (S05.lsE l)] [.many 3 (fun j => .im (S05.lsE m j))] := by
  rw [e]; exact rover_ok K l h1 h2
theorem rnext_ok (K : KR6 P F) (l : S05.Ls) (h : S05.nextOk l) : FnOk P (F 199) [.many 3 (S05.lsE l)] [.many 3 (fun j => .im (S05.lsE (S05.nextL l) j)), .one (.im (.int .i64 (S05.nextA l))), .one (.im (.int .i64 (S05.nextC l)))] := by
  refine fnOk K.m K.next ?_
  repeat' first | (with_reducible first | refine wkI ?_ | exact ⟨⟩ | refine wkB (fun _ => ?_) fun _ => ?_ | refine wkT (fun _ => ?_) ?_) | ((with_reducible refine wkC ?_ ?_); exact CEq.refl _) | (with_reducible refine wkL ?_) | ((with_reducible fail_if_success first | constructor | show False); conv => whnf)
  rw [show S05.nextL l = (S05.nx l).1 from if_pos h, show S05.nextA l = (S05.nx l).1.at_ from if_pos h, show S05.nextC l = (S05.nx l).2 from if_pos h]
  have hb := S05.mv_bd h.1 h.2
  refine LoopVC.inv (X := S05.Ls × Nat) (fun x => (S05.right x.1 ∧ S05.waits x.1) ∧ S05.nx x.1 = S05.nx l ∧ S05.mv x.1 + x.2 ≤ 24) (fun x => stL [(1, .va 1 0 0), (2, .va 2 0 0), (5, .c (.int .i64 x.2))] [(1, lV x.1), (2, vE [.nil 3, .c (.int .i64 0), .c (.bool false)])])
    (fun x => 40 - x.2) (l, 0) ⟨h, rfl, hb⟩ ?_ ?_
  · (refine Le.of ?_ ?_ <;> repeat' first | exact trivial | exact CEq.refl _ | exact rfl | exact cI (by push_cast; first | rfl | omega) | exact SubE.dat fun _ _ _ _ => CEq.refl _ | refine SubE.varN ?_ | refine Exists.intro _ (And.intro rfl ?_) | refine And.intro ?_ ?_)
  rintro Q hQ ⟨m, n⟩ ⟨⟨r, w⟩, e, b⟩
  dsimp only at r w e b
  dsimp only
  clear h hb
  have hp := r.pos
  have h1 := r.1
  have h2 := r.2.1
  have hc := r.cur
  have step : ∀ m', S05.turn m = (m', none) → (S05.right m' ∧ S05.waits m') ∧ S05.nx m' = S05.nx l ∧ S05.mv m' + (n + 1) ≤ 24 := fun m' ht => by
    obtain ⟨t1, t2, -⟩ := S05.turn_none r w ht
    have := S05.turn_mv r w ht
    exact ⟨⟨t1, t2⟩, (S05.nx_none r w ht).symm.trans e, by omega⟩
  have hstep := S05.at_step r
  have hgb := S05.gv_bd r
  repeat' first | (with_reducible first | refine wkI ?_ | exact ⟨⟩ | refine wkB (fun _ => ?_) fun _ => ?_ | refine wkT (fun _ => ?_) ?_) | ((with_reducible refine wkC ?_ ?_); exact CEq.refl _) | (with_reducible refine wkL ?_) | ((with_reducible fail_if_success first | constructor | show False); conv => whnf)
  · rename_i g1 g2
    have hz : (S05.cur m).costs = [] := List.eq_nil_of_length_eq_zero (by have := of_decide_eq_true g2; unfold S05.cur S05.pos; omega)
    have ht := step (S05.adv m 0) (by unfold S05.turn; rw [if_pos hz])
    rw [show m.list.getD m.at_.toNat default = S05.cur m from rfl]
    refine CallVC.mk' (fun _ => rwith_ok K m (S05.pos m) ⟨(S05.cur m).weight, 0, (S05.cur m).costs⟩ h1.2) (fun _ => .cons ((mC3 (by rfl))) (.cons (.one (eI hp.2.symm)) (.cons ((mC3 (by rfl))) .nil))) ?_
    repeat' first | (with_reducible first | refine wkI ?_ | exact ⟨⟩ | refine wkB (fun _ => ?_) fun _ => ?_ | refine wkT (fun _ => ?_) ?_) | ((with_reducible refine wkC ?_ ?_); exact CEq.refl _) | (with_reducible refine wkL ?_) | ((with_reducible fail_if_success first | constructor | show False); conv => whnf)
    refine CallVC.mk' (fun _ => rover_to K ⟨m.list.set (S05.pos m) ⟨(S05.cur m).weight, 0, (S05.cur m).costs⟩, m.at_, m.given⟩ (S05.adv m 0) (by rw [List.length_set]; exact h1) (by rw [List.length_set]; exact h2) (by unfold S05.adv; rw [hstep, List.length_set])) (fun _ => .cons ((mC3 (by rfl))) .nil) ?_
    generalize S05.adv m 0 = m' at *
    repeat' first | (with_reducible first | refine wkI ?_ | exact ⟨⟩ | refine wkB (fun _ => ?_) fun _ => ?_ | refine wkT (fun _ => ?_) ?_) | ((with_reducible refine wkC ?_ ?_); exact CEq.refl _) | (with_reducible refine wkL ?_) | ((with_reducible fail_if_success first | constructor | show False); conv => whnf)
    refine LoopEnd.mk ⟨(m', n + 1), ht, by show 40 - (n + 1) < 40 - n; omega, ?_⟩
    clear hQ
    (refine Le.of ?_ ?_ <;> repeat' first | exact trivial | exact CEq.refl _ | exact rfl | exact cI (by push_cast; first | rfl | omega) | exact SubE.dat fun _ _ _ _ => CEq.refl _ | refine SubE.varN ?_ | refine Exists.intro _ (And.intro rfl ?_) | refine And.intro ?_ ?_)
  · rename_i g1 g2 g3
    have hne : (S05.cur m).costs ≠ [] := fun x => by
      have := of_decide_eq_false g2
      rw [show m.list.getD m.at_.toNat default = S05.cur m from rfl, x] at this
      exact this rfl
    have hgv : S05.gv m = (S05.cur m).deficit + (S05.cur m).weight * 4 := if_neg (by intro x; rw [x] at g3; cases g3)
    have hln := List.length_pos_iff.2 hne
    rw [show m.list.getD m.at_.toNat default = S05.cur m from rfl]
    refine Need.mk (by dsimp only [rng]; have := hc.1; omega) ?_
    repeat' first | (with_reducible first | refine wkI ?_ | exact ⟨⟩ | refine wkB (fun _ => ?_) fun _ => ?_ | refine wkT (fun _ => ?_) ?_) | ((with_reducible refine wkC ?_ ?_); exact CEq.refl _) | (with_reducible refine wkL ?_) | ((with_reducible fail_if_success first | constructor | show False); conv => whnf)
    rw [show (S05.cur m).deficit + 4 * (S05.cur m).weight = S05.gv m by omega]
    refine CallVC.mk' (fun _ => rwith_ok K m (S05.pos m) ⟨(S05.cur m).weight, S05.gv m, (S05.cur m).costs⟩ h1.2) (fun _ => .cons ((mC3 (by rfl))) (.cons (.one (eI hp.2.symm)) (.cons ((mC3 (by rfl))) .nil))) ?_
    repeat' first | (with_reducible first | refine wkI ?_ | exact ⟨⟩ | refine wkB (fun _ => ?_) fun _ => ?_ | refine wkT (fun _ => ?_) ?_) | ((with_reducible refine wkC ?_ ?_); exact CEq.refl _) | (with_reducible refine wkL ?_) | ((with_reducible fail_if_success first | constructor | show False); conv => whnf)
    · rename_i g4
      have g4 : S05.gv m < S05.hd0 m := of_decide_eq_true g4
      have ht := step (S05.adv m (S05.gv m)) (by unfold S05.turn; rw [if_neg hne, if_pos g4])
      refine CallVC.mk' (fun _ => rover_to K ⟨m.list.set (S05.pos m) ⟨(S05.cur m).weight, S05.gv m, (S05.cur m).costs⟩, m.at_, true⟩ (S05.adv m (S05.gv m)) (by rw [List.length_set]; exact h1) (by rw [List.length_set]; exact h2) (by unfold S05.adv; rw [hstep, List.length_set])) (fun _ => .cons ((mC3 (by rfl))) .nil) ?_
      generalize S05.adv m (S05.gv m) = m' at *
      repeat' first | (with_reducible first | refine wkI ?_ | exact ⟨⟩ | refine wkB (fun _ => ?_) fun _ => ?_ | refine wkT (fun _ => ?_) ?_) | ((with_reducible refine wkC ?_ ?_); exact CEq.refl _) | (with_reducible refine wkL ?_) | ((with_reducible fail_if_success first | constructor | show False); conv => whnf)
      refine LoopEnd.mk ⟨(m', n + 1), ht, by show 40 - (n + 1) < 40 - n; omega, ?_⟩
      clear hQ
      (refine Le.of ?_ ?_ <;> repeat' first | exact trivial | exact CEq.refl _ | exact rfl | exact cI (by push_cast; first | rfl | omega) | exact SubE.dat fun _ _ _ _ => CEq.refl _ | refine SubE.varN ?_ | refine Exists.intro _ (And.intro rfl ?_) | refine And.intro ?_ ?_)
    · rename_i g4
      have hgs : ¬ S05.gv m < S05.hd0 m := of_decide_eq_false g4
      have hhb := S05.hd_bd r hne
      rw [show (S05.cur m).costs.getD (Int.toNat 0) default = S05.hd0 m from rfl]
      refine Need.mk (by dsimp only [rng]; omega) ?_
      repeat' first | (with_reducible first | refine wkI ?_ | exact ⟨⟩ | refine wkB (fun _ => ?_) fun _ => ?_ | refine wkT (fun _ => ?_) ?_) | ((with_reducible refine wkC ?_ ?_); exact CEq.refl _) | (with_reducible refine wkL ?_) | ((with_reducible fail_if_success first | constructor | show False); conv => whnf)
      · rename_i z
        have hdr : (S05.cur m).costs.drop 1 = [] := by
          have z := of_decide_eq_true z
          rw [← List.length_eq_zero_iff, List.length_drop]
          have z : (((S05.cur m).costs.length - 1 : Nat) : Int) = 0 := z
          omega
        have hsv : S05.nx m = (S05.srv m, S05.hd0 m) := S05.nx_some (by unfold S05.turn; rw [if_neg hne, if_neg hgs])
        refine CallVC.mk' (fun _ => rwith_to K ⟨m.list.set (S05.pos m) ⟨(S05.cur m).weight, S05.gv m, (S05.cur m).costs⟩, m.at_, true⟩ (S05.srv m) (S05.pos m) ⟨(S05.cur m).weight, 0, (S05.cur m).costs.drop 1⟩ (by rw [List.length_set]; exact h1.2) (by unfold S05.srv; rw [if_pos hdr, List.set_set])) (fun _ => .cons ((mC3 (by rfl))) (.cons (.one (eI hp.2.symm)) (.cons (.many fun j hj => by
          rcases (show j = 0 ∨ j = 1 ∨ j = 2 by omega) with rfl | rfl | rfl
          · exact CEq.refl _
          · exact CEq.refl _
          · exact ((IsL.refl (size := 1) (enc := S05.intE) (l := (S05.cur m).costs)).drop (k := 1)).ceq (by rw [List.length_drop]; rfl)) .nil))) ?_
        repeat' first | (with_reducible first | refine wkI ?_ | exact ⟨⟩ | refine wkB (fun _ => ?_) fun _ => ?_ | refine wkT (fun _ => ?_) ?_) | ((with_reducible refine wkC ?_ ?_); exact CEq.refl _) | (with_reducible refine wkL ?_) | ((with_reducible fail_if_success first | constructor | show False); conv => whnf)
        refine Out.mk (hQ _ _ ?_)
        rw [← e, hsv]
        repeat' first | (with_reducible first | refine wkI ?_ | exact ⟨⟩ | refine wkB (fun _ => ?_) fun _ => ?_ | refine wkT (fun _ => ?_) ?_) | ((with_reducible refine wkC ?_ ?_); exact CEq.refl _) | (with_reducible refine wkL ?_) | ((with_reducible fail_if_success first | constructor | show False); conv => whnf)
      · rename_i z
        have hdr : ¬ (S05.cur m).costs.drop 1 = [] := by
          have z := of_decide_eq_false z
          rw [← List.length_eq_zero_iff, List.length_drop]
          have z : ¬ (((S05.cur m).costs.length - 1 : Nat) : Int) = 0 := z
          omega
        have hsv : S05.nx m = (S05.srv m, S05.hd0 m) := S05.nx_some (by unfold S05.turn; rw [if_neg hne, if_neg hgs])
        refine CallVC.mk' (fun _ => rwith_to K ⟨m.list.set (S05.pos m) ⟨(S05.cur m).weight, S05.gv m, (S05.cur m).costs⟩, m.at_, true⟩ (S05.srv m) (S05.pos m) ⟨(S05.cur m).weight, S05.gv m - S05.hd0 m, (S05.cur m).costs.drop 1⟩ (by rw [List.length_set]; exact h1.2) (by unfold S05.srv; rw [if_neg hdr, List.set_set])) (fun _ => .cons ((mC3 (by rfl))) (.cons (.one (eI hp.2.symm)) (.cons (.many fun j hj => by
          rcases (show j = 0 ∨ j = 1 ∨ j = 2 by omega) with rfl | rfl | rfl
          · exact CEq.refl _
          · exact CEq.refl _
          · exact ((IsL.refl (size := 1) (enc := S05.intE) (l := (S05.cur m).costs)).drop (k := 1)).ceq (by rw [List.length_drop]; rfl)) .nil))) ?_
        repeat' first | (with_reducible first | refine wkI ?_ | exact ⟨⟩ | refine wkB (fun _ => ?_) fun _ => ?_ | refine wkT (fun _ => ?_) ?_) | ((with_reducible refine wkC ?_ ?_); exact CEq.refl _) | (with_reducible refine wkL ?_) | ((with_reducible fail_if_success first | constructor | show False); conv => whnf)
        refine Out.mk (hQ _ _ ?_)
        rw [← e, hsv]
        repeat' first | (with_reducible first | refine wkI ?_ | exact ⟨⟩ | refine wkB (fun _ => ?_) fun _ => ?_ | refine wkT (fun _ => ?_) ?_) | ((with_reducible refine wkC ?_ ?_); exact CEq.refl _) | (with_reducible refine wkL ?_) | ((with_reducible fail_if_success first | constructor | show False); conv => whnf)
  · rename_i g1 g2 g3
    have hne : (S05.cur m).costs ≠ [] := fun x => by
      have := of_decide_eq_false g2
      rw [show m.list.getD m.at_.toNat default = S05.cur m from rfl, x] at this
      exact this rfl
    have hgt : m.given = true := by cases hg : m.given with | true => rfl | false => rw [hg] at g3; cases g3
    have hgv : S05.gv m = (S05.cur m).deficit := if_pos hgt
    have hln := List.length_pos_iff.2 hne
    rw [show m.list.getD m.at_.toNat default = S05.cur m from rfl]
    refine Need.mk (by omega) ?_
    repeat' first | (with_reducible first | refine wkI ?_ | exact ⟨⟩ | refine wkB (fun _ => ?_) fun _ => ?_ | refine wkT (fun _ => ?_) ?_) | ((with_reducible refine wkC ?_ ?_); exact CEq.refl _) | (with_reducible refine wkL ?_) | ((with_reducible fail_if_success first | constructor | show False); conv => whnf)
    · rename_i g4
      have g4 : S05.gv m < S05.hd0 m := by rw [hgv]; exact of_decide_eq_true g4
      have ht := step (S05.adv m (S05.gv m)) (by unfold S05.turn; rw [if_neg hne, if_pos g4])
      refine CallVC.mk' (fun _ => rover_to K m (S05.adv m (S05.gv m)) h1 h2 (by unfold S05.adv; rw [hstep, hgv, S05.set_cur r])) (fun _ => .cons ((mC3 (by rfl))) .nil) ?_
      generalize S05.adv m (S05.gv m) = m' at *
      repeat' first | (with_reducible first | refine wkI ?_ | exact ⟨⟩ | refine wkB (fun _ => ?_) fun _ => ?_ | refine wkT (fun _ => ?_) ?_) | ((with_reducible refine wkC ?_ ?_); exact CEq.refl _) | (with_reducible refine wkL ?_) | ((with_reducible fail_if_success first | constructor | show False); conv => whnf)
      refine LoopEnd.mk ⟨(m', n + 1), ht, by show 40 - (n + 1) < 40 - n; omega, ?_⟩
      clear hQ
      (refine Le.of ?_ ?_ <;> repeat' first | exact trivial | exact CEq.refl _ | exact rfl | exact cI (by push_cast; first | rfl | omega) | exact SubE.dat fun _ _ _ _ => CEq.refl _ | refine SubE.varN ?_ | refine Exists.intro _ (And.intro rfl ?_) | refine And.intro ?_ ?_)
    · rename_i g4
      have hgs : ¬ S05.gv m < S05.hd0 m := by rw [hgv]; exact of_decide_eq_false g4
      have hhb := S05.hd_bd r hne
      rw [show (S05.cur m).costs.getD (Int.toNat 0) default = S05.hd0 m from rfl]
      refine Need.mk (by dsimp only [rng]; omega) ?_
      repeat' first | (with_reducible first | refine wkI ?_ | exact ⟨⟩ | refine wkB (fun _ => ?_) fun _ => ?_ | refine wkT (fun _ => ?_) ?_) | ((with_reducible refine wkC ?_ ?_); exact CEq.refl _) | (with_reducible refine wkL ?_) | ((with_reducible fail_if_success first | constructor | show False); conv => whnf)
      · rename_i z
        have hdr : (S05.cur m).costs.drop 1 = [] := by
          have z := of_decide_eq_true z
          rw [← List.length_eq_zero_iff, List.length_drop]
          have z : (((S05.cur m).costs.length - 1 : Nat) : Int) = 0 := z
          omega
        have hsv : S05.nx m = (S05.srv m, S05.hd0 m) := S05.nx_some (by unfold S05.turn; rw [if_neg hne, if_neg hgs])
        refine CallVC.mk' (fun _ => rwith_to K ⟨m.list, m.at_, m.given⟩ (S05.srv m) (S05.pos m) ⟨(S05.cur m).weight, 0, (S05.cur m).costs.drop 1⟩ (by exact h1.2) (by unfold S05.srv; rw [if_pos hdr, hgt])) (fun _ => .cons ((mC3 (by rfl))) (.cons (.one (eI hp.2.symm)) (.cons (.many fun j hj => by
          rcases (show j = 0 ∨ j = 1 ∨ j = 2 by omega) with rfl | rfl | rfl
          · exact CEq.refl _
          · exact CEq.refl _
          · exact ((IsL.refl (size := 1) (enc := S05.intE) (l := (S05.cur m).costs)).drop (k := 1)).ceq (by rw [List.length_drop]; rfl)) .nil))) ?_
        repeat' first | (with_reducible first | refine wkI ?_ | exact ⟨⟩ | refine wkB (fun _ => ?_) fun _ => ?_ | refine wkT (fun _ => ?_) ?_) | ((with_reducible refine wkC ?_ ?_); exact CEq.refl _) | (with_reducible refine wkL ?_) | ((with_reducible fail_if_success first | constructor | show False); conv => whnf)
        refine Out.mk (hQ _ _ ?_)
        rw [← e, hsv]
        repeat' first | (with_reducible first | refine wkI ?_ | exact ⟨⟩ | refine wkB (fun _ => ?_) fun _ => ?_ | refine wkT (fun _ => ?_) ?_) | ((with_reducible refine wkC ?_ ?_); exact CEq.refl _) | (with_reducible refine wkL ?_) | ((with_reducible fail_if_success first | constructor | show False); conv => whnf)
      · rename_i z
        have hdr : ¬ (S05.cur m).costs.drop 1 = [] := by
          have z := of_decide_eq_false z
          rw [← List.length_eq_zero_iff, List.length_drop]
          have z : ¬ (((S05.cur m).costs.length - 1 : Nat) : Int) = 0 := z
          omega
        have hsv : S05.nx m = (S05.srv m, S05.hd0 m) := S05.nx_some (by unfold S05.turn; rw [if_neg hne, if_neg hgs])
        refine CallVC.mk' (fun _ => rwith_to K ⟨m.list, m.at_, m.given⟩ (S05.srv m) (S05.pos m) ⟨(S05.cur m).weight, (S05.cur m).deficit - S05.hd0 m, (S05.cur m).costs.drop 1⟩ (by exact h1.2) (by unfold S05.srv; rw [if_neg hdr, hgt, hgv])) (fun _ => .cons ((mC3 (by rfl))) (.cons (.one (eI hp.2.symm)) (.cons (.many fun j hj => by
          rcases (show j = 0 ∨ j = 1 ∨ j = 2 by omega) with rfl | rfl | rfl
          · exact CEq.refl _
          · exact CEq.refl _
          · exact ((IsL.refl (size := 1) (enc := S05.intE) (l := (S05.cur m).costs)).drop (k := 1)).ceq (by rw [List.length_drop]; rfl)) .nil))) ?_
        repeat' first | (with_reducible first | refine wkI ?_ | exact ⟨⟩ | refine wkB (fun _ => ?_) fun _ => ?_ | refine wkT (fun _ => ?_) ?_) | ((with_reducible refine wkC ?_ ?_); exact CEq.refl _) | (with_reducible refine wkL ?_) | ((with_reducible fail_if_success first | constructor | show False); conv => whnf)
        refine Out.mk (hQ _ _ ?_)
        rw [← e, hsv]
        repeat' first | (with_reducible first | refine wkI ?_ | exact ⟨⟩ | refine wkB (fun _ => ?_) fun _ => ?_ | refine wkT (fun _ => ?_) ?_) | ((with_reducible refine wkC ?_ ?_); exact CEq.refl _) | (with_reducible refine wkL ?_) | ((with_reducible fail_if_success first | constructor | show False); conv => whnf)
  · rename_i g1
    have := of_decide_eq_false g1
    omega
end
end Lk.S06
namespace Lk.S06
open Go Lk Lk.C Lk.S03 Lk.S04
def pV (s : Sd) : Ent := vE [.c (slL 3 S05.lnE s.lanes.list), .c (.int .i64 s.lanes.at_), .c (.bool s.lanes.given), .os 1014 0 1 0 s.jobs.length, .c (slL 1 strE s.dev.disk.secs), .c (slL 2 wrE s.dev.disk.cache), .c (.int .i64 s.dev.next), .c (slL 4 rqE s.dev.flight), .os 1018 0 5 0 s.out.length]
def nV : Ent := vE [.nil 3, .c (.int .i64 0), .c (.bool false), .nil 1, .nil 1, .nil 2, .c (.int .i64 0), .nil 4, .nil 5]
theorem pmp1_jobs {s : Sd} : (pmp1 s).jobs.length = s.jobs.length := by unfold pmp1; exact List.length_set
theorem pmp1_out {s : Sd} : (pmp1 s).out.length = s.out.length + 1 := by unfold pmp1; show (s.out ++ [_]).length = _; simp
theorem tailJ {l : List Jb} (h : 0 < l.length) : CEq (.sl 5 (l.length - 1) fun i j => jbE (l.getD (addN 1 (addN 0 i)) default) j) (slL 5 jbE (l.drop 1)) :=
  CEq.trans (CEq.slice fun i hi j hj => by rw [addN_eq, addN_eq, Nat.zero_add]; exact CEq.refl _) (((IsL.refl (size := 5) (enc := jbE) (l := l)).drop (k := 1)).ceq (by rw [List.length_drop]))
section
variable {P : Program} {F : Nat → Nat}
theorem pump_ok (K : KSd P F) (s : Sd) (S : SmallS s) : FnOk P (F 178) [.many 9 (sdE s)] [.many 9 (fun j => .im (sdE (pumpS s) j))] := by
  refine fnOk K.d.k.m K.pump ?_
  have hj := S.j
  have ho := S.o
  repeat' first | (with_reducible first | refine wkI ?_ | exact ⟨⟩ | refine wkB (fun _ => ?_) fun _ => ?_ | refine wkT (fun _ => ?_) ?_ | refine wkL ?_) | ((with_reducible refine wkC ?_ ?_); exact CEq.refl _) | ((with_reducible fail_if_success first | constructor | show False); conv => whnf)
  refine CallVC.mk' (fun _ => right_ok K s S) (fun _ => .cons ((mC9 (by rfl))) .nil) ?_
  repeat' first | (with_reducible first | refine wkI ?_ | exact ⟨⟩ | refine wkB (fun _ => ?_) fun _ => ?_ | refine wkT (fun _ => ?_) ?_ | refine wkL ?_) | ((with_reducible refine wkC ?_ ?_); exact CEq.refl _) | ((with_reducible fail_if_success first | constructor | show False); conv => whnf)
  · rename_i h
    simp only [Bool.not_eq_true', decide_eq_false_iff_not] at h
    rw [show pumpS s = s from if_neg h]
    repeat' first | (with_reducible first | refine wkI ?_ | exact ⟨⟩ | refine wkB (fun _ => ?_) fun _ => ?_ | refine wkT (fun _ => ?_) ?_ | refine wkL ?_) | ((with_reducible refine wkC ?_ ?_); exact CEq.refl _) | ((with_reducible fail_if_success first | constructor | show False); conv => whnf)
  rename_i h
  simp only [Bool.not_eq_false', decide_eq_true_eq] at h
  rw [show pumpS s = pmpN 4 s from if_pos h]
  refine CallVC.mk' (fun _ => sl_Clone_Lsched_Job_ok K.d.k.m K.cloneL s.jobs.length (fun i j => jlE (s.jobs.getD i default) j) hj) (fun _ => .cons (.one (CEq.refl _)) .nil) ?_
  repeat' first | (with_reducible first | refine wkI ?_ | exact ⟨⟩ | refine wkB (fun _ => ?_) fun _ => ?_ | refine wkT (fun _ => ?_) ?_ | refine wkL ?_) | ((with_reducible refine wkC ?_ ?_); exact CEq.refl _) | ((with_reducible fail_if_success first | constructor | show False); conv => whnf)
  refine CallVC.mk' (fun _ => sl_Clone_sched_Job_ok K.d.k.m K.cloneJ s.out.length (fun i j => jbE (s.out.getD i default) j) ho) (fun _ => .cons (.one (CEq.refl _)) .nil) ?_
  repeat' first | (with_reducible first | refine wkI ?_ | exact ⟨⟩ | refine wkB (fun _ => ?_) fun _ => ?_ | refine wkT (fun _ => ?_) ?_ | refine wkL ?_) | ((with_reducible refine wkC ?_ ?_); exact CEq.refl _) | ((with_reducible fail_if_success first | constructor | show False); conv => whnf)
  refine LoopVC.inv (fun x : Sd => rightS x ∧ pmpN 4 x = pmpN 4 s) (fun x => stL [(1, .va 1 0 0), (2, .va 2 0 0)] [(1, pV x), (2, nV), (1014, ⟨1, x.jobs.length, .dat fun i j => jlE (x.jobs.getD i default) j, false, true⟩), (1018, ⟨5, x.out.length, .dat fun i j => jbE (x.out.getD i default) j, false, true⟩)])
    (fun x => 4 - x.dev.flight.length) s ⟨h, rfl⟩ ?_ ?_
  · (refine Le.of ?_ ?_ <;> repeat' first | exact trivial | exact CEq.refl _ | exact rfl | exact cI (by push_cast; first | rfl | omega) | exact SubE.dat fun _ _ _ _ => CEq.refl _ | refine SubE.varN ?_ | refine Exists.intro _ (And.intro rfl ?_) | refine And.intro ?_ ?_)
  rintro Q hQ x ⟨hr, he⟩
  clear h hj ho S
  have X := hr.small
  have xj := X.j
  have xo := X.o
  repeat' first | (with_reducible first | refine wkI ?_ | exact ⟨⟩ | refine wkB (fun _ => ?_) fun _ => ?_ | refine wkT (fun _ => ?_) ?_ | refine wkL ?_) | ((with_reducible refine wkC ?_ ?_); exact CEq.refl _) | ((with_reducible fail_if_success first | constructor | show False); conv => whnf)
  · rename_i g
    rw [Bool.and_eq_true, decide_eq_true_eq, decide_eq_true_eq] at g
    refine CallVC.mk' (fun _ => S05.next_ok K.l x.lanes X.l) (fun _ => .cons ((mC3 (by rfl))) .nil) ?_
    by_cases hn : S05.nextOk x.lanes
    · have hc : pmpC x := ⟨by omega, g.2, hn⟩
      obtain ⟨f1, f2, f3, f4, f5, f6, f7⟩ := pj_facts hr hc
      have p1 := pmp1_right hr hc
      have p2 := pmp1_flight hr hc
      have p3 := pmpN_step hr hc
      have hjl := X.jl _ (getD_mem f1)
      have hjd := X.jd _ (getD_mem f1)
      have hpos : 0 < (x.jobs.getD (pw x) default).length := List.length_pos_iff.2 f3
      have hpj : (x.jobs.getD (pw x) default).getD (Int.toNat 0) default = pj x := rfl
      rw [decide_eq_true hn, ← f2]
      repeat' first | (with_reducible first | refine wkI ?_ | exact ⟨⟩ | refine wkB (fun _ => ?_) fun _ => ?_ | refine wkT (fun _ => ?_) ?_ | refine wkL ?_) | ((with_reducible refine wkC ?_ ?_); exact CEq.refl _) | ((with_reducible fail_if_success first | constructor | show False); conv => whnf)
      · rename_i y
        exact absurd y (by decide)
      rw [Int.toNat_natCast, show addN 0 (pw x) = pw x by rw [addN_eq, Nat.zero_add]]
      repeat' first | (with_reducible first | refine wkI ?_ | exact ⟨⟩ | refine wkB (fun _ => ?_) fun _ => ?_ | refine wkT (fun _ => ?_) ?_ | refine wkL ?_) | ((with_reducible refine wkC ?_ ?_); exact CEq.refl _) | ((with_reducible fail_if_success first | constructor | show False); conv => whnf)
      rw [Int.toNat_natCast, show addN 0 (pw x) = pw x by rw [addN_eq, Nat.zero_add]]
      repeat' first | (with_reducible first | refine wkI ?_ | exact ⟨⟩ | refine wkB (fun _ => ?_) fun _ => ?_ | refine wkT (fun _ => ?_) ?_ | refine wkL ?_) | ((with_reducible refine wkC ?_ ?_); exact CEq.refl _) | ((with_reducible fail_if_success first | constructor | show False); conv => whnf)
      refine CallVC.mk' (fun _ => sl_Clone_sched_Job_ok K.d.k.m K.cloneJ ((x.jobs.getD (pw x) default).length - 1) (fun i j => jbE ((x.jobs.getD (pw x) default).getD (addN 1 i) default) j) (by omega)) (fun _ => .cons (.one (CEq.refl _)) .nil) ?_
      repeat' first | (with_reducible first | refine wkI ?_ | exact ⟨⟩ | refine wkB (fun _ => ?_) fun _ => ?_ | refine wkT (fun _ => ?_) ?_ | refine wkL ?_) | ((with_reducible refine wkC ?_ ?_); exact CEq.refl _) | ((with_reducible fail_if_success first | constructor | show False); conv => whnf)
      have hpd : (pj x).data.length ≤ 1000000 := hjd _ (getD_mem hpos)
      refine CallVC.mk' (fun _ => submit_ok K.d x.dev (pj x).kind (pj x).page (pj x).data X.v (by omega)) (fun _ => .cons ((mC4 (by rfl))) (.cons (.one (CEq.refl _)) (.cons (.one (CEq.refl _)) (.cons (.one (CEq.refl _)) .nil)))) ?_
      have hpo := pmp1_out (s := x)
      have hpn := pmp1_jobs (s := x)
      repeat' first | (with_reducible first | refine wkI ?_ | exact ⟨⟩ | refine wkB (fun _ => ?_) fun _ => ?_ | refine wkT (fun _ => ?_) ?_ | refine wkL ?_) | ((with_reducible refine wkC ?_ ?_); exact CEq.refl _) | ((with_reducible fail_if_success first | constructor | show False); conv => whnf)
      refine LoopEnd.mk ⟨pmp1 x, ⟨p1, p3.symm.trans he⟩, by omega, ?_⟩
      clear hQ he p3 p1 hpj f3 f4 f5 f6 f7 xj xo X hr
      (refine Le.of ?_ ?_ <;> repeat' first | exact trivial | exact CEq.refl _ | exact rfl | exact cI (by push_cast; first | rfl | omega) | exact SubE.dat fun _ _ _ _ => CEq.refl _ | refine SubE.varN ?_ | refine Exists.intro _ (And.intro rfl ?_) | refine And.intro ?_ ?_)
      · exact hpn.symm
      · exact hpo.symm
      · exact ⟨rfl, hpn.symm, id, id, fun i hi j hj => isL_set (y := (x.jobs.getD (pw x) default).drop 1) f1 IsL.refl (tailJ hpos) i (by rw [List.length_set]; exact hi) j hj⟩
      · exact ⟨rfl, hpo.symm, id, id, fun i hi j hj => (IsL.refl (size := 5) (enc := jbE) (l := x.out)).app rfl (isL_one (x := ⟨(pj x).who, (pj x).kind, (pj x).page, (pj x).data, 1⟩) rfl rfl rfl rfl rfl) i (by rw [List.length_append]; exact hi) j hj⟩
    · have hc : ¬ pmpC x := fun y => hn y.2.2
      rw [decide_eq_false hn]
      repeat' first | (with_reducible first | refine wkI ?_ | exact ⟨⟩ | refine wkB (fun _ => ?_) fun _ => ?_ | refine wkT (fun _ => ?_) ?_ | refine wkL ?_) | ((with_reducible refine wkC ?_ ?_); exact CEq.refl _) | ((with_reducible fail_if_success first | constructor | show False); conv => whnf)
      · refine Out.mk (hQ _ _ ?_)
        rw [← he, pmpN_end hc]
        repeat' first | (with_reducible first | refine wkI ?_ | exact ⟨⟩ | refine wkB (fun _ => ?_) fun _ => ?_ | refine wkT (fun _ => ?_) ?_ | refine wkL ?_) | ((with_reducible refine wkC ?_ ?_); exact CEq.refl _) | ((with_reducible fail_if_success first | constructor | show False); conv => whnf)
      · rename_i y
        cases y
  · rename_i g
    have hc : ¬ pmpC x := fun y => by rw [decide_eq_true (show (x.dev.flight.length : Int) < 4 by have := y.1; omega), decide_eq_true y.2.1] at g; cases g
    refine Out.mk (hQ _ _ ?_)
    rw [← he, pmpN_end hc]
    repeat' first | (with_reducible first | refine wkI ?_ | exact ⟨⟩ | refine wkB (fun _ => ?_) fun _ => ?_ | refine wkT (fun _ => ?_) ?_ | refine wkL ?_) | ((with_reducible refine wkC ?_ ?_); exact CEq.refl _) | ((with_reducible fail_if_success first | constructor | show False); conv => whnf)
end
end Lk.S06
namespace Lk.S06
open Go Lk Lk.C Lk.S03 Lk.S04
section
variable {P : Program} {F : Nat → Nat}
theorem ragain_to (K : KR6 P F) (s m : Sd) (x : Jb) (hd : rightV s.dev) (ho : s.out.length ≤ 1000000) (hx : x.data.length ≤ 1000000) (ht : 0 ≤ x.tries ∧ x.tries ≤ 3) (e : m = ⟨s.lanes, s.jobs, (subm s.dev x.kind x.page x.data).1, s.out ++ [⟨x.who, x.kind, x.page, x.data, x.tries + 1⟩]⟩) :
    FnOk P (F 201) [.many 9 (sdE s), .many 5 (jbE x)] [.many 9 (fun j => .im (sdE m j))] := by
  rw [e]; exact ragain_ok K s x hd ho hx ht
theorem rpump_ok (K : KR6 P F) (s : Sd) (h : rightS s) : FnOk P (F 181) [.many 9 (sdE s)] [.many 9 (fun j => .im (sdE (pumpS s) j))] := by
  refine fnOk K.m K.pump ?_
  repeat' first | (with_reducible first | refine wkI ?_ | exact ⟨⟩ | refine wkB (fun _ => ?_) fun _ => ?_ | refine wkT (fun _ => ?_) ?_) | ((with_reducible refine wkC ?_ ?_); exact CEq.refl _) | (with_reducible refine wkL ?_) | ((with_reducible fail_if_success first | constructor | show False); conv => whnf)
  refine CallVC.mk' (fun _ => rright6_ok K s h) (fun _ => .cons ((mC9 (by rfl))) .nil) ?_
  repeat' first | (with_reducible first | refine wkI ?_ | exact ⟨⟩ | refine wkB (fun _ => ?_) fun _ => ?_ | refine wkT (fun _ => ?_) ?_) | ((with_reducible refine wkC ?_ ?_); exact CEq.refl _) | (with_reducible refine wkL ?_) | ((with_reducible fail_if_success first | constructor | show False); conv => whnf)
  · rename_i z
    cases z
  rw [show pumpS s = pmpN 4 s from if_pos h]
  refine LoopVC.inv (X := Sd × Nat) (fun x => rightS x.1 ∧ pmpN 4 x.1 = pmpN 4 s ∧ x.2 ≤ x.1.out.length) (fun x => stL [(1, .va 1 0 0), (2, .va 2 0 0), (3, .c (.int .i64 x.2))] [(1, sV x.1), (2, nV)])
    (fun x => 4 - x.1.out.length) (s, 0) ⟨h, rfl, Nat.zero_le _⟩ ?_ ?_
  · (refine Le.of ?_ ?_ <;> repeat' first | exact trivial | exact CEq.refl _ | exact rfl | exact cI (by push_cast; first | rfl | omega) | exact SubE.dat fun _ _ _ _ => CEq.refl _ | refine SubE.varN ?_ | refine Exists.intro _ (And.intro rfl ?_) | refine And.intro ?_ ?_)
  clear h
  rintro Q hQ ⟨x, n⟩ ⟨hr, he, hno⟩
  dsimp only at hr he hno
  dsimp only
  have X := hr.small
  have xj := X.j
  have xo := X.o
  have hfo := hr.2.1.2
  have hf4 := hr.1.2.2.1.2.2
  repeat' first | (with_reducible first | refine wkI ?_ | exact ⟨⟩ | refine wkB (fun _ => ?_) fun _ => ?_ | refine wkT (fun _ => ?_) ?_) | ((with_reducible refine wkC ?_ ?_); exact CEq.refl _) | (with_reducible refine wkL ?_) | ((with_reducible fail_if_success first | constructor | show False); conv => whnf)
  refine CallVC.mk' (fun _ => rwaits_ok K x.lanes hr.1.1) (fun _ => .cons ((mC3 (by rfl))) .nil) ?_
  repeat' first | (with_reducible first | refine wkI ?_ | exact ⟨⟩ | refine wkB (fun _ => ?_) fun _ => ?_ | refine wkT (fun _ => ?_) ?_) | ((with_reducible refine wkC ?_ ?_); exact CEq.refl _) | (with_reducible refine wkL ?_) | ((with_reducible fail_if_success first | constructor | show False); conv => whnf)
  · rename_i g
    simp only [Bool.and_eq_true, decide_eq_true_eq] at g
    have hc : pmpC x := ⟨by omega, by omega, hr.1.1, g.2⟩
    have f1 := (pj_facts hr hc).1
    have f2 := (pj_facts hr hc).2.1
    have f3 := (pj_facts hr hc).2.2.1
    have f6 := (pj_facts hr hc).2.2.2.2.2.1
    have p1 := pmp1_right hr hc
    have p3 := pmpN_step hr hc
    have hpo := pmp1_out (s := x)
    have hjl := X.jl _ (getD_mem f1)
    have hjd := X.jd _ (getD_mem f1)
    have hpos : 0 < (x.jobs.getD (pw x) default).length := List.length_pos_iff.2 f3
    have hpd : (pj x).data.length ≤ 1000000 := hjd _ (getD_mem hpos)
    have hjs : ∀ i, (x.jobs.set (pw x) ((x.jobs.getD (pw x) default).drop 1)).getD i default = if pw x = i then (x.jobs.getD (pw x) default).drop 1 else x.jobs.getD i default := fun i => set_at f1
    have hjn : (x.jobs.set (pw x) ((x.jobs.getD (pw x) default).drop 1)).length = x.jobs.length := List.length_set
    have hp1 : pmp1 x = ⟨S05.nextL x.lanes, x.jobs.set (pw x) ((x.jobs.getD (pw x) default).drop 1), (subm x.dev (pj x).kind (pj x).page (pj x).data).1, x.out ++ [⟨(pj x).who, (pj x).kind, (pj x).page, (pj x).data, 1⟩]⟩ := rfl
    refine CallVC.mk' (fun _ => rnext_ok K x.lanes hc.2.2) (fun _ => .cons ((mC3 (by rfl))) .nil) ?_
    rw [← f2]
    generalize hJ : x.jobs.set (pw x) ((x.jobs.getD (pw x) default).drop 1) = J at *
    generalize S05.nextL x.lanes = L at *
    repeat' first | (with_reducible first | refine wkI ?_ | exact ⟨⟩ | refine wkB (fun _ => ?_) fun _ => ?_ | refine wkT (fun _ => ?_) ?_) | ((with_reducible refine wkC ?_ ?_); exact CEq.refl _) | (with_reducible refine wkL ?_) | ((with_reducible fail_if_success first | constructor | show False); conv => whnf)
    refine LoopVC.inv (fun i : Nat => i ≤ x.jobs.length) (fun i => stL [(1, .va 1 0 0), (2, .va 2 0 0), (3, .c (.int .i64 n)), (4, .va 4 0 0), (5, .c (.int .i64 (pw x))), (7, .os 59 0 1 0 i), (8, .c (.int .i64 i))]
      [(1, sV x), (2, nV), (4, vE [.c (slL 3 S05.lnE L.list), .c (.int .i64 L.at_), .c (.bool L.given)]), (59, ⟨1, i, .dat fun r j => jlE (J.getD r default) j, false, true⟩)]) (fun i => x.jobs.length - i) 0 (Nat.zero_le _) ?_ ?_
    · clear hQ
      (refine Le.ofN [59] ?_ ?_ <;> repeat' first | exact trivial | exact SubF.inr ⟨_, _, _, rfl, rfl, rfl⟩ | exact SubF.inl (cI (by push_cast; first | rfl | omega)) | exact SubF.inl (CEq.refl _) | exact SubF.inl rfl | exact SubF.inl trivial | exact SubF.inl ⟨rfl, rfl, rfl⟩ | exact SubF.inl ⟨rfl, rfl, rfl, rfl, rfl⟩ | exact Or.inl ⟨rfl, rfl⟩ | refine Or.inr ⟨rfl, _, rfl, ?_⟩ | refine SubEF.var2 ?_ ?_ | refine SubEF.var1 ?_ | refine SubEF.var3 ?_ ?_ ?_ | refine SubEF.varN ?_ | refine SubEF.var4 ?_ ?_ ?_ ?_ | exact SubEF.of (SubE.dat fun _ _ _ _ => CEq.refl _) | refine And.intro ?_ ?_ | refine SubF.frz rfl rfl rfl rfl (Nat.le_of_eq (Nat.zero_add _)) rfl rfl ?_)
    rintro Q2 hQ2 i hi
    repeat' first | (with_reducible first | refine wkI ?_ | exact ⟨⟩ | refine wkB (fun _ => ?_) fun _ => ?_ | refine wkT (fun _ => ?_) ?_) | ((with_reducible refine wkC ?_ ?_); exact CEq.refl _) | (with_reducible refine wkL ?_) | ((with_reducible fail_if_success first | constructor | show False); conv => whnf)
    · rename_i g1 g2
      have g1 : i < x.jobs.length := by have := of_decide_eq_true g1; omega
      have g2 : pw x = i := by have := of_decide_eq_true g2; omega
      have hjl2 := X.jl _ (getD_mem g1)
      repeat' first | (with_reducible first | refine wkI ?_ | exact ⟨⟩ | refine wkB (fun _ => ?_) fun _ => ?_ | refine wkT (fun _ => ?_) ?_) | ((with_reducible refine wkC ?_ ?_); exact CEq.refl _) | (with_reducible refine wkL ?_) | ((with_reducible fail_if_success first | constructor | show False); conv => whnf)
      rw [Int.toNat_natCast]
      refine CallVC.mk' (fun _ => withoutJ_ok K (x.jobs.getD i default) 0 (by omega)) (fun _ => .cons (.one (CEq.refl _)) (.cons (.one (CEq.refl _)) .nil)) ?_
      repeat' first | (with_reducible first | refine wkI ?_ | exact ⟨⟩ | refine wkB (fun _ => ?_) fun _ => ?_ | refine wkT (fun _ => ?_) ?_) | ((with_reducible refine wkC ?_ ?_); exact CEq.refl _) | (with_reducible refine wkL ?_) | ((with_reducible fail_if_success first | constructor | show False); conv => whnf)
      refine LoopEnd.mk ⟨i + 1, g1, by omega, ?_⟩
      clear hQ hQ2
      (refine Le.of ?_ ?_ <;> repeat' first | exact trivial | exact CEq.refl _ | exact rfl | exact cI (by push_cast; first | rfl | omega) | exact SubE.dat fun _ _ _ _ => CEq.refl _ | refine SubE.varN ?_ | refine Exists.intro _ (And.intro rfl ?_) | refine And.intro ?_ ?_)
      refine SubE.dat (app_row (enc := jlE) (L := J) fun j hj => ?_)
      rw [hjs i, if_pos g2, g2]
      have hj : j < 1 := hj
      obtain rfl : j = 0 := by omega
      exact CEq.refl _
    · rename_i g1 g2
      have g1 : i < x.jobs.length := by have := of_decide_eq_true g1; omega
      have g2 : ¬ pw x = i := by have := of_decide_eq_false g2; omega
      have hjl2 := X.jl _ (getD_mem g1)
      repeat' first | (with_reducible first | refine wkI ?_ | exact ⟨⟩ | refine wkB (fun _ => ?_) fun _ => ?_ | refine wkT (fun _ => ?_) ?_) | ((with_reducible refine wkC ?_ ?_); exact CEq.refl _) | (with_reducible refine wkL ?_) | ((with_reducible fail_if_success first | constructor | show False); conv => whnf)
      refine LoopEnd.mk ⟨i + 1, g1, by omega, ?_⟩
      clear hQ hQ2
      (refine Le.of ?_ ?_ <;> repeat' first | exact trivial | exact CEq.refl _ | exact rfl | exact cI (by push_cast; first | rfl | omega) | exact SubE.dat fun _ _ _ _ => CEq.refl _ | refine SubE.varN ?_ | refine Exists.intro _ (And.intro rfl ?_) | refine And.intro ?_ ?_)
      refine SubE.dat (app_row (enc := jlE) (L := J) fun j hj => ?_)
      rw [hjs i, if_neg g2]
      have hj : j < 1 := hj
      obtain rfl : j = 0 := by omega
      exact CEq.refl _
    · rename_i g1
      have g1 : i = x.jobs.length := by have := of_decide_eq_false g1; omega
      refine Out.mk (hQ2 _ _ ?_)
      clear hQ2
      repeat' first | (with_reducible first | refine wkI ?_ | exact ⟨⟩ | refine wkB (fun _ => ?_) fun _ => ?_ | refine wkT (fun _ => ?_) ?_) | ((with_reducible refine wkC ?_ ?_); exact CEq.refl _) | (with_reducible refine wkL ?_) | ((with_reducible fail_if_success first | constructor | show False); conv => whnf)
      rw [Int.toNat_natCast]
      refine CallVC.mk' (fun _ => ragain_to K ⟨L, J, x.dev, x.out⟩ (pmp1 x) (pj x) hr.1.2 xo hpd (by omega) (by rw [hp1, f6]; rfl)) (fun _ => .cons (.many fun j hj => by
        rcases (show j = 0 ∨ j = 1 ∨ j = 2 ∨ j = 3 ∨ j = 4 ∨ j = 5 ∨ j = 6 ∨ j = 7 ∨ j = 8 by omega) with rfl | rfl | rfl | rfl | rfl | rfl | rfl | rfl | rfl
        · exact CEq.refl _
        · exact CEq.refl _
        · exact CEq.refl _
        · exact IsL.ceq (l := J) IsL.refl.off (by omega)
        all_goals exact CEq.refl _) (.cons ((mC5 (by rfl))) .nil)) ?_
      generalize pmp1 x = y at *
      repeat' first | (with_reducible first | refine wkI ?_ | exact ⟨⟩ | refine wkB (fun _ => ?_) fun _ => ?_ | refine wkT (fun _ => ?_) ?_) | ((with_reducible refine wkC ?_ ?_); exact CEq.refl _) | (with_reducible refine wkL ?_) | ((with_reducible fail_if_success first | constructor | show False); conv => whnf)
      refine LoopEnd.mk ⟨(y, n + 1), ⟨p1, p3.symm.trans he, by show n + 1 ≤ y.out.length; omega⟩, by show 4 - y.out.length < 4 - x.out.length; omega, ?_⟩
      clear hQ
      (refine Le.of ?_ ?_ <;> repeat' first | exact trivial | exact CEq.refl _ | exact rfl | exact cI (by push_cast; first | rfl | omega) | exact SubE.dat fun _ _ _ _ => CEq.refl _ | refine SubE.varN ?_ | refine Exists.intro _ (And.intro rfl ?_) | refine And.intro ?_ ?_)
  · rename_i g
    have hc : ¬ pmpC x := fun y => by
      rw [decide_eq_true (show (n : Int) < 4 by have := y.1; omega), decide_eq_true (show (x.out.length : Int) < 4 by have := y.1; omega), decide_eq_true y.2.1, decide_eq_true y.2.2.2] at g
      cases g
    refine Out.mk (hQ _ _ ?_)
    rw [← he, pmpN_end hc]
    clear hQ
    repeat' first | (with_reducible first | refine wkI ?_ | exact ⟨⟩ | refine wkB (fun _ => ?_) fun _ => ?_ | refine wkT (fun _ => ?_) ?_) | ((with_reducible refine wkC ?_ ?_); exact CEq.refl _) | (with_reducible refine wkL ?_) | ((with_reducible fail_if_success first | constructor | show False); conv => whnf)
end
end Lk.S06
namespace Lk.S06
open Go Lk Lk.C Lk.S03 Lk.S04
section
variable {P : Program} {F : Nat → Nat}
theorem rdone_ok (K : KR6 P F) (s : Sd) (at_ : Int) (fault : Bool) (h : rightS s) :
    FnOk P (F 182) [.many 9 (sdE s), .one (.int .i64 at_), .one (.bool fault)] [.many 9 (fun j => .im (sdE (doneS s at_ fault).1 j)), .many 5 (fun j => .im (jbE (doneS s at_ fault).2.1 j)), .one (.im (.int .i64 (doneS s at_ fault).2.2.1)), .one (.im (.bool (doneS s at_ fault).2.2.2))] := by
  refine fnOk K.m K.done ?_
  have S := h.small
  have ho := S.o
  repeat' first | (with_reducible first | refine wkI ?_ | exact ⟨⟩ | refine wkB (fun _ => ?_) fun _ => ?_ | refine wkT (fun _ => ?_) ?_) | ((with_reducible refine wkC ?_ ?_); exact CEq.refl _) | (with_reducible refine wkL ?_) | ((with_reducible fail_if_success first | constructor | show False); conv => whnf)
  refine CallVC.mk' (fun _ => rright6_ok K s h) (fun _ => .cons ((mC9 (by rfl))) .nil) ?_
  repeat' first | (with_reducible first | refine wkI ?_ | exact ⟨⟩ | refine wkB (fun _ => ?_) fun _ => ?_ | refine wkT (fun _ => ?_) ?_) | ((with_reducible refine wkC ?_ ?_); exact CEq.refl _) | (with_reducible refine wkL ?_) | ((with_reducible fail_if_success first | constructor | show False); conv => whnf)
  · rename_i z
    have z : doneNo s at_ := by
      rw [Bool.not_true, Bool.false_or] at z
      simp only [Bool.or_eq_true, decide_eq_true_eq] at z
      exact .inr z
    rw [done_no z]
    repeat' first | (with_reducible first | refine wkI ?_ | exact ⟨⟩ | refine wkB (fun _ => ?_) fun _ => ?_ | refine wkT (fun _ => ?_) ?_) | ((with_reducible refine wkC ?_ ?_); exact CEq.refl _) | (with_reducible refine wkL ?_) | ((with_reducible fail_if_success first | constructor | show False); conv => whnf)
  rename_i z
  have z : ¬ doneNo s at_ := by
    rw [Bool.not_true, Bool.false_or] at z
    simp only [Bool.or_eq_false_iff, decide_eq_false_iff_not] at z
    rintro (x | x | x)
    · exact x h
    · exact z.1 x
    · exact z.2 x
  obtain ⟨a, rfl, ha, he, hno⟩ := done_yes (f := fault) z
  rw [he]
  have hox := h.2.2.2 a ha
  have hmy := out_may h ha
  have hfr := fin_right (fault := fault) hno
  have hnx := fin_next (d := s.dev) (i := a) (fault := fault)
  have hxd := S.od _ (getD_mem ha)
  have hwl : (withoutJ s.out a).length ≤ 1000000 := by unfold withoutJ; rw [wo_length ha]; omega
  repeat' first | (with_reducible first | refine wkI ?_ | exact ⟨⟩ | refine wkB (fun _ => ?_) fun _ => ?_ | refine wkT (fun _ => ?_) ?_) | ((with_reducible refine wkC ?_ ?_); exact CEq.refl _) | (with_reducible refine wkL ?_) | ((with_reducible fail_if_success first | constructor | show False); conv => whnf)
  rw [Int.toNat_natCast]
  refine CallVC.mk' (fun _ => rfinish_ok K.v s.dev a fault (wfV h.1.2) (rightV.small h.1.2)) (fun _ => .cons ((mC4 (by rfl))) (.cons (.one (CEq.refl _)) (.cons (.one (CEq.refl _)) .nil))) ?_
  generalize finD s.dev a fault = y at *
  generalize s.out.getD a default = x at *
  repeat' first | (with_reducible first | refine wkI ?_ | exact ⟨⟩ | refine wkB (fun _ => ?_) fun _ => ?_ | refine wkT (fun _ => ?_) ?_) | ((with_reducible refine wkC ?_ ?_); exact CEq.refl _) | (with_reducible refine wkL ?_) | ((with_reducible fail_if_success first | constructor | show False); conv => whnf)
  refine CallVC.mk' (fun _ => withoutJ_ok K s.out a (by omega)) (fun _ => .cons (.one (CEq.refl _)) (.cons (.one (CEq.refl _)) .nil)) ?_
  generalize withoutJ s.out a = l at *
  repeat' first | (with_reducible first | refine wkI ?_ | exact ⟨⟩ | refine wkB (fun _ => ?_) fun _ => ?_ | refine wkT (fun _ => ?_) ?_) | ((with_reducible refine wkC ?_ ?_); exact CEq.refl _) | (with_reducible refine wkL ?_) | ((with_reducible fail_if_success first | constructor | show False); conv => whnf)
  · rename_i g
    simp only [Bool.and_eq_true, decide_eq_true_eq] at g
    rw [show doneX s x l y = (⟨s.lanes, s.jobs, (subm y.1 x.kind x.page x.data).1, l ++ [⟨x.who, x.kind, x.page, x.data, x.tries + 1⟩]⟩, noJ, 0, false) from if_pos ⟨g.1.1, g.1.2, g.2⟩]
    refine CallVC.mk' (fun _ => ragain_ok K ⟨s.lanes, s.jobs, y.1, l⟩ x hfr hwl hxd (by have := hox.2.2; omega)) (fun _ => .cons ((mC9 (by rfl))) (.cons ((mC5 (by rfl))) .nil)) ?_
    repeat' first | (with_reducible first | refine wkI ?_ | exact ⟨⟩ | refine wkB (fun _ => ?_) fun _ => ?_ | refine wkT (fun _ => ?_) ?_) | ((with_reducible refine wkC ?_ ?_); exact CEq.refl _) | (with_reducible refine wkL ?_) | ((with_reducible fail_if_success first | constructor | show False); conv => whnf)
  · rename_i g
    rw [show doneX s x l y = (⟨s.lanes, s.jobs, y.1, l⟩, ⟨x.who, x.kind, x.page, y.2.1.data, x.tries⟩, y.2.2, true) from if_neg (fun z => by rw [decide_eq_true z.1, decide_eq_true z.2.1, decide_eq_true z.2.2] at g; cases g)]
    repeat' first | (with_reducible first | refine wkI ?_ | exact ⟨⟩ | refine wkB (fun _ => ?_) fun _ => ?_ | refine wkT (fun _ => ?_) ?_) | ((with_reducible refine wkC ?_ ?_); exact CEq.refl _) | (with_reducible refine wkL ?_) | ((with_reducible fail_if_success first | constructor | show False); conv => whnf)
theorem rcrash6_ok (K : KR6 P F) (s : Sd) (keep : List Int) (h : rightS s) (hk : keep.length ≤ 1000000) :
    FnOk P (F 184) [.many 9 (sdE s), .one (slL 1 intE keep)] [.many 9 (fun j => .im (sdE (crashS s keep) j))] := by
  refine fnOk K.m K.crash ?_
  have S := h.small
  have hj := S.j
  have hje := h.2.1.1
  have hl6 := h.1.1.1
  repeat' first | (with_reducible first | refine wkI ?_ | exact ⟨⟩ | refine wkB (fun _ => ?_) fun _ => ?_ | refine wkT (fun _ => ?_) ?_) | ((with_reducible refine wkC ?_ ?_); exact CEq.refl _) | (with_reducible refine wkL ?_) | ((with_reducible fail_if_success first | constructor | show False); conv => whnf)
  refine CallVC.mk' (fun _ => rcrash_ok K.v.rc s.dev.disk keep S.v.k hk) (fun _ => .cons ((mC2 (by rfl))) (.cons (.one (CEq.refl _)) .nil)) ?_
  have hnl : S05.newL (s.lanes.list.map (·.weight)) = ⟨(s.lanes.list.map (·.weight)).map S05.newLn, 0, false⟩ := if_pos ⟨by simpa using hl6, fun w hw => by
    obtain ⟨x, hx, rfl⟩ := List.mem_map.1 hw
    obtain ⟨i, hi, rfl⟩ := List.mem_iff_getElem.1 hx
    have := (h.1.1.2.2 i hi).1
    rw [getD_eq hi] at this; exact this⟩
  have hcs : crashS s keep = ⟨⟨(s.lanes.list.map (·.weight)).map S05.newLn, 0, false⟩, List.replicate s.jobs.length [], ⟨refCrash s.dev.disk keep, s.dev.next, []⟩, []⟩ := by
    unfold crashS; rw [if_pos h, hnl, hje]; unfold crashV; rw [if_pos h.1.2, crash_ref h.1.2.1.1]
  have hll : ((s.lanes.list.map (·.weight)).map S05.newLn).length = s.jobs.length := by simp; omega
  have hli : ∀ i, i < s.jobs.length → ((s.lanes.list.map (·.weight)).map S05.newLn).getD i default = ⟨(s.lanes.list.getD i default).weight, 0, []⟩ := fun i hi => by
    rw [getD_eq (by omega), getD_eq (show i < s.lanes.list.length by omega)]; simp [S05.newLn]
  rw [hcs]
  clear hcs hnl
  generalize (s.lanes.list.map (·.weight)).map S05.newLn = L at *
  generalize refCrash s.dev.disk keep = D at *
  repeat' first | (with_reducible first | refine wkI ?_ | exact ⟨⟩ | refine wkB (fun _ => ?_) fun _ => ?_ | refine wkT (fun _ => ?_) ?_) | ((with_reducible refine wkC ?_ ?_); exact CEq.refl _) | (with_reducible refine wkL ?_) | ((with_reducible fail_if_success first | constructor | show False); conv => whnf)
  refine LoopVC.inv (fun i : Nat => i ≤ s.jobs.length) (fun i => stL [(2, .va 2 0 0), (4, .va 4 0 0), (5, .va 5 0 0), (6, .c (.int .i64 i))]
    [(2, sV s), (4, nV), (5, vE [.os 36 0 3 0 i, .c (.int .i64 0), .c (.bool false), .os 42 0 1 0 i, .c (slL 1 strE D.secs), .c (slL 2 wrE D.cache), .c (.int .i64 s.dev.next), .nil 4, .nil 5]),
     (36, ⟨3, i, .dat fun r j => S05.lnE (L.getD r default) j, false, true⟩), (42, ⟨1, i, .dat fun _ _ => slL 5 jbE [], false, true⟩)]) (fun i => s.jobs.length - i) 0 (Nat.zero_le _) ?_ ?_
  · (refine Le.ofN [36, 42] ?_ ?_ <;> repeat' first | exact trivial | exact SubF.inr ⟨_, _, _, rfl, rfl, rfl⟩ | exact SubF.inl (cI (by push_cast; first | rfl | omega)) | exact SubF.inl (CEq.refl _) | exact SubF.inl rfl | exact SubF.inl trivial | exact SubF.inl ⟨rfl, rfl, rfl⟩ | exact SubF.inl ⟨rfl, rfl, rfl, rfl, rfl⟩ | exact Or.inl ⟨rfl, rfl⟩ | refine Or.inr ⟨rfl, _, rfl, ?_⟩ | refine SubEF.var2 ?_ ?_ | refine SubEF.var1 ?_ | refine SubEF.var3 ?_ ?_ ?_ | refine SubEF.varN ?_ | refine SubEF.var4 ?_ ?_ ?_ ?_ | exact SubEF.of (SubE.dat fun _ _ _ _ => CEq.refl _) | refine And.intro ?_ ?_ | refine SubF.frz rfl rfl rfl rfl (Nat.le_of_eq (Nat.zero_add _)) rfl rfl ?_)
  rintro Q hQ i hi
  repeat' first | (with_reducible first | refine wkI ?_ | exact ⟨⟩ | refine wkB (fun _ => ?_) fun _ => ?_ | refine wkT (fun _ => ?_) ?_) | ((with_reducible refine wkC ?_ ?_); exact CEq.refl _) | (with_reducible refine wkL ?_) | ((with_reducible fail_if_success first | constructor | show False); conv => whnf)
  · rename_i g1
    have g1 : i < s.jobs.length := by have := of_decide_eq_true g1; omega
    repeat' first | (with_reducible first | refine wkI ?_ | exact ⟨⟩ | refine wkB (fun _ => ?_) fun _ => ?_ | refine wkT (fun _ => ?_) ?_) | ((with_reducible refine wkC ?_ ?_); exact CEq.refl _) | (with_reducible refine wkL ?_) | ((with_reducible fail_if_success first | constructor | show False); conv => whnf)
    refine LoopEnd.mk ⟨i + 1, g1, by omega, ?_⟩
    clear hQ
    (refine Le.of ?_ ?_ <;> repeat' first | exact trivial | exact CEq.refl _ | exact rfl | exact cI (by push_cast; first | rfl | omega) | exact SubE.dat fun _ _ _ _ => CEq.refl _ | refine SubE.varN ?_ | refine Exists.intro _ (And.intro rfl ?_) | refine And.intro ?_ ?_)
    · refine SubE.dat (app_row (enc := S05.lnE) (L := L) fun j hj => ?_)
      rw [hli i g1]
      have hj : j < 3 := hj
      rcases (show j = 0 ∨ j = 1 ∨ j = 2 by omega) with rfl | rfl | rfl
      · exact CEq.refl _
      · exact CEq.refl _
      · exact ceq_nil
    · refine SubE.dat fun r hr j hj => ?_
      have hj : j < 1 := hj
      obtain rfl : j = 0 := by omega
      have hr : r < i + 1 := hr
      rw [appC_at]
      by_cases e : i ≤ r
      · obtain rfl : r = i := by omega
        rw [if_pos e, Nat.sub_self]
        exact (ceq_nil : CEq (Cell.sl 5 0 fun _ _ => Cell.bool false) (slL 5 jbE []))
      · rw [if_neg e]; exact CEq.refl _
  · rename_i g1
    have g1 : i = s.jobs.length := by have := of_decide_eq_false g1; omega
    refine Out.mk (hQ _ _ ?_)
    clear hQ
    repeat' first | (with_reducible first | refine wkI ?_ | exact ⟨⟩ | refine wkB (fun _ => ?_) fun _ => ?_ | refine wkT (fun _ => ?_) ?_) | ((with_reducible refine wkC ?_ ?_); exact CEq.refl _) | (with_reducible refine wkL ?_) | ((with_reducible fail_if_success first | constructor | show False); conv => whnf)
    refine Need.mk (IsL.ceq (l := L) IsL.refl.off (by omega)) ?_
    repeat' first | (with_reducible first | refine wkI ?_ | exact ⟨⟩ | refine wkB (fun _ => ?_) fun _ => ?_ | refine wkT (fun _ => ?_) ?_) | ((with_reducible refine wkC ?_ ?_); exact CEq.refl _) | (with_reducible refine wkL ?_) | ((with_reducible fail_if_success first | constructor | show False); conv => whnf)
    refine Need.mk ((nilsL fun i j => ⟨_, _, rfl⟩).ceq (by simp; omega)) ?_
    repeat' first | (with_reducible first | refine wkI ?_ | exact ⟨⟩ | refine wkB (fun _ => ?_) fun _ => ?_ | refine wkT (fun _ => ?_) ?_) | ((with_reducible refine wkC ?_ ?_); exact CEq.refl _) | (with_reducible refine wkL ?_) | ((with_reducible fail_if_success first | constructor | show False); conv => whnf)
    repeat
      refine Need.mk ceq_nil ?_
      repeat' first | (with_reducible first | refine wkI ?_ | exact ⟨⟩ | refine wkB (fun _ => ?_) fun _ => ?_ | refine wkT (fun _ => ?_) ?_) | ((with_reducible refine wkC ?_ ?_); exact CEq.refl _) | (with_reducible refine wkL ?_) | ((with_reducible fail_if_success first | constructor | show False); conv => whnf)
theorem rsame6_ok (K : KR6 P F) (s : Sd) (h : rightS s) : FnOk P (F 186) [.many 9 (sdE s), .many 9 (sdE s)] [.one (.im (.bool true))] := by
  refine fnOk K.m K.same ?_
  have S := h.small
  have hj := S.j
  have ho := S.o
  have hl6 := h.1.1.1.2
  repeat' first | (with_reducible first | refine wkI ?_ | exact ⟨⟩ | refine wkB (fun _ => ?_) fun _ => ?_ | refine wkT (fun _ => ?_) ?_) | ((with_reducible refine wkC ?_ ?_); exact CEq.refl _) | (with_reducible refine wkL ?_) | ((with_reducible fail_if_success first | constructor | show False); conv => whnf)
  refine CallVC.mk' (fun _ => S05.rsame_ok K.m K.same5 s.lanes s.lanes (by omega) (fun x hx => by
    obtain ⟨i, hi, rfl⟩ := List.mem_iff_getElem.1 hx
    have := (h.1.1.2.2 i hi).2.2.1
    rw [getD_eq hi] at this; omega)) (fun _ => .cons ((mC3 (by rfl))) (.cons ((mC3 (by rfl))) .nil)) ?_
  rw [decide_eq_true (rfl : s.lanes = s.lanes)]
  repeat' first | (with_reducible first | refine wkI ?_ | exact ⟨⟩ | refine wkB (fun _ => ?_) fun _ => ?_ | refine wkT (fun _ => ?_) ?_) | ((with_reducible refine wkC ?_ ?_); exact CEq.refl _) | (with_reducible refine wkL ?_) | ((with_reducible fail_if_success first | constructor | show False); conv => whnf)
  refine CallVC.mk' (fun _ => rsameV_ok K.v s.dev s.dev (rightV.small h.1.2) (rightV.small h.1.2)) (fun _ => .cons ((mC4 (by rfl))) (.cons ((mC4 (by rfl))) .nil)) ?_
  rw [decide_eq_true (rfl : s.dev = s.dev)]
  repeat' first | (with_reducible first | refine wkI ?_ | exact ⟨⟩ | refine wkB (fun _ => ?_) fun _ => ?_ | refine wkT (fun _ => ?_) ?_) | ((with_reducible refine wkC ?_ ?_); exact CEq.refl _) | (with_reducible refine wkL ?_) | ((with_reducible fail_if_success first | constructor | show False); conv => whnf)
  · rename_i z
    rw [decide_eq_true (rfl : (s.jobs.length : Int) = s.jobs.length)] at z
    exact absurd z (by decide)
  refine LoopVC.inv (fun i : Nat => i ≤ s.jobs.length) (fun i => stL [(2, .va 2 0 0), (3, .va 3 0 0), (5, .c (.int .i64 i))] [(2, sV s), (3, sV s)]) (fun i => s.jobs.length - i) 0 (Nat.zero_le _) ?_ ?_
  · (refine Le.of ?_ ?_ <;> repeat' first | exact trivial | exact CEq.refl _ | exact rfl | exact cI (by push_cast; first | rfl | omega) | exact SubE.dat fun _ _ _ _ => CEq.refl _ | refine SubE.varN ?_ | refine Exists.intro _ (And.intro rfl ?_) | refine And.intro ?_ ?_)
  rintro Q hQ i hi
  repeat' first | (with_reducible first | refine wkI ?_ | exact ⟨⟩ | refine wkB (fun _ => ?_) fun _ => ?_ | refine wkT (fun _ => ?_) ?_) | ((with_reducible refine wkC ?_ ?_); exact CEq.refl _) | (with_reducible refine wkL ?_) | ((with_reducible fail_if_success first | constructor | show False); conv => whnf)
  · rename_i g1
    have g1 : i < s.jobs.length := by have := of_decide_eq_true g1; omega
    have hjl := S.jl _ (getD_mem g1)
    repeat' first | (with_reducible first | refine wkI ?_ | exact ⟨⟩ | refine wkB (fun _ => ?_) fun _ => ?_ | refine wkT (fun _ => ?_) ?_) | ((with_reducible refine wkC ?_ ?_); exact CEq.refl _) | (with_reducible refine wkL ?_) | ((with_reducible fail_if_success first | constructor | show False); conv => whnf)
    rw [Int.toNat_natCast]
    refine CallVC.mk' (fun _ => rjobs_ok K (s.jobs.getD i default) (s.jobs.getD i default) hjl hjl) (fun _ => .cons (.one (CEq.refl _)) (.cons (.one (CEq.refl _)) .nil)) ?_
    rw [decide_eq_true (rfl : s.jobs.getD i default = s.jobs.getD i default)]
    repeat' first | (with_reducible first | refine wkI ?_ | exact ⟨⟩ | refine wkB (fun _ => ?_) fun _ => ?_ | refine wkT (fun _ => ?_) ?_) | ((with_reducible refine wkC ?_ ?_); exact CEq.refl _) | (with_reducible refine wkL ?_) | ((with_reducible fail_if_success first | constructor | show False); conv => whnf)
    · rename_i z; cases z
    refine LoopEnd.mk ⟨i + 1, g1, by omega, ?_⟩
    clear hQ
    (refine Le.of ?_ ?_ <;> repeat' first | exact trivial | exact CEq.refl _ | exact rfl | exact cI (by push_cast; first | rfl | omega) | exact SubE.dat fun _ _ _ _ => CEq.refl _ | refine SubE.varN ?_ | refine Exists.intro _ (And.intro rfl ?_) | refine And.intro ?_ ?_)
  · refine Out.mk (hQ _ _ ?_)
    clear hQ
    repeat' first | (with_reducible first | refine wkI ?_ | exact ⟨⟩ | refine wkB (fun _ => ?_) fun _ => ?_ | refine wkT (fun _ => ?_) ?_) | ((with_reducible refine wkC ?_ ?_); exact CEq.refl _) | (with_reducible refine wkL ?_) | ((with_reducible fail_if_success first | constructor | show False); conv => whnf)
    refine CallVC.mk' (fun _ => rjobs_ok K s.out s.out ho ho) (fun _ => .cons (.one (CEq.refl _)) (.cons (.one (CEq.refl _)) .nil)) ?_
    rw [decide_eq_true (rfl : s.out = s.out)]
    repeat' first | (with_reducible first | refine wkI ?_ | exact ⟨⟩ | refine wkB (fun _ => ?_) fun _ => ?_ | refine wkT (fun _ => ?_) ?_) | ((with_reducible refine wkC ?_ ?_); exact CEq.refl _) | (with_reducible refine wkL ?_) | ((with_reducible fail_if_success first | constructor | show False); conv => whnf)
end
end Lk.S06
namespace Lk.S06
open Go Lk Lk.C Lk.S03 Lk.S04
section
variable {P : Program} {F : Nat → Nat}
theorem ref6_ok (K : KR6 P F) (s : Sd) (h : rightS s) : FnOk P (F 185) [.many 9 (sdE s)] [.many 9 (fun j => .im (sdE s j)), .one (.im (.bool true))] := by
  refine fnOk K.m K.ref ?_
  have S := h.small
  have hl6 := h.1.1.1.2
  have hje := h.2.1.1
  have hoe := h.2.1.2
  have hf4 := h.1.2.2.1.2.2
  repeat' first | (with_reducible first | refine wkI ?_ | exact ⟨⟩ | refine wkB (fun _ => ?_) fun _ => ?_ | refine wkT (fun _ => ?_) ?_) | ((with_reducible refine wkC ?_ ?_); exact CEq.refl _) | (with_reducible refine wkL ?_) | ((with_reducible fail_if_success first | constructor | show False); conv => whnf)
  refine CallVC.mk' (fun _ => small_ok K.v.r s.dev.disk (wfV h.1.2).1) (fun _ => .cons ((mC2 (by rfl))) .nil) ?_
  rw [decide_eq_true (right.tiny h.1.2.1.1)]
  repeat' first | (with_reducible first | refine wkI ?_ | exact ⟨⟩ | refine wkB (fun _ => ?_) fun _ => ?_ | refine wkT (fun _ => ?_) ?_) | ((with_reducible refine wkC ?_ ?_); exact CEq.refl _) | (with_reducible refine wkL ?_) | ((with_reducible fail_if_success first | constructor | show False); conv => whnf)
  · rename_i z
    rw [decide_eq_false (show ¬ 20 < (s.dev.flight.length : Int) by omega), decide_eq_false (show ¬ 20 < (s.lanes.list.length : Int) by omega), decide_eq_false (show ¬ 20 < (s.jobs.length : Int) by omega), decide_eq_false (show ¬ 20 < (s.out.length : Int) by omega)] at z
    exact absurd z (by decide)
  refine LoopVC.inv (fun i : Nat => i ≤ s.dev.flight.length) (fun i => stL [(1, .va 1 0 0), (2, .va 2 0 0), (4, .va 4 0 0), (5, .os 76 0 4 0 i), (67, .c (slL 4 rqE s.dev.flight)), (68, .c (.int .i64 s.dev.flight.length)), (69, .c (.int .i64 i))]
    [(1, sV s), (2, nV), (4, vE [.nil 3, .c (.int .i64 s.lanes.at_), .c (.bool s.lanes.given), .nil 1, .c (slL 1 strE s.dev.disk.secs), .c (slL 2 wrE s.dev.disk.cache), .c (.int .i64 s.dev.next), .nil 4, .nil 5]),
     (76, ⟨4, i, .dat fun r j => rqE (s.dev.flight.getD r default) j, false, true⟩)]) (fun i => s.dev.flight.length - i) 0 (Nat.zero_le _) ?_ ?_
  · (refine Le.ofN [76] ?_ ?_ <;> repeat' first | exact trivial | exact SubF.inr ⟨_, _, _, rfl, rfl, rfl⟩ | exact SubF.inl (cI (by push_cast; first | rfl | omega)) | exact SubF.inl (CEq.refl _) | exact SubF.inl rfl | exact SubF.inl trivial | exact SubF.inl ⟨rfl, rfl, rfl⟩ | exact SubF.inl ⟨rfl, rfl, rfl, rfl, rfl⟩ | exact Or.inl ⟨rfl, rfl⟩ | refine Or.inr ⟨rfl, _, rfl, ?_⟩ | refine SubEF.var2 ?_ ?_ | refine SubEF.var1 ?_ | refine SubEF.var3 ?_ ?_ ?_ | refine SubEF.varN ?_ | refine SubEF.var4 ?_ ?_ ?_ ?_ | exact SubEF.of (SubE.dat fun _ _ _ _ => CEq.refl _) | refine And.intro ?_ ?_ | refine SubF.frz rfl rfl rfl rfl (Nat.le_of_eq (Nat.zero_add _)) rfl rfl ?_)
  rintro Q hQ i hi
  repeat' first | (with_reducible first | refine wkI ?_ | exact ⟨⟩ | refine wkB (fun _ => ?_) fun _ => ?_ | refine wkT (fun _ => ?_) ?_) | ((with_reducible refine wkC ?_ ?_); exact CEq.refl _) | (with_reducible refine wkL ?_) | ((with_reducible fail_if_success first | constructor | show False); conv => whnf)
  · rename_i g1
    have g1 : i < s.dev.flight.length := by have := of_decide_eq_true g1; omega
    repeat' first | (with_reducible first | refine wkI ?_ | exact ⟨⟩ | refine wkB (fun _ => ?_) fun _ => ?_ | refine wkT (fun _ => ?_) ?_) | ((with_reducible refine wkC ?_ ?_); exact CEq.refl _) | (with_reducible refine wkL ?_) | ((with_reducible fail_if_success first | constructor | show False); conv => whnf)
    refine LoopEnd.mk ⟨i + 1, g1, by omega, ?_⟩
    clear hQ
    (refine Le.of ?_ ?_ <;> repeat' first | exact trivial | exact CEq.refl _ | exact rfl | exact cI (by push_cast; first | rfl | omega) | exact SubE.dat fun _ _ _ _ => CEq.refl _ | refine SubE.varN ?_ | refine Exists.intro _ (And.intro rfl ?_) | refine And.intro ?_ ?_)
    refine SubE.dat (app_row (enc := rqE) (L := s.dev.flight) fun j hj => ?_)
    have hj : j < 4 := hj
    rcases (show j = 0 ∨ j = 1 ∨ j = 2 ∨ j = 3 by omega) with rfl | rfl | rfl | rfl <;> exact CEq.refl _
  rename_i g1
  have g1 : i = s.dev.flight.length := by have := of_decide_eq_false g1; omega
  subst g1
  refine Out.mk (hQ _ _ ?_)
  clear hQ Q
  repeat' first | (with_reducible first | refine wkI ?_ | exact ⟨⟩ | refine wkB (fun _ => ?_) fun _ => ?_ | refine wkT (fun _ => ?_) ?_) | ((with_reducible refine wkC ?_ ?_); exact CEq.refl _) | (with_reducible refine wkL ?_) | ((with_reducible fail_if_success first | constructor | show False); conv => whnf)
  refine LoopVC.inv (fun i : Nat => i ≤ s.lanes.list.length) (fun i => stL [(1, .va 1 0 0), (2, .va 2 0 0), (4, .va 4 0 0), (5, .os 76 0 4 0 s.dev.flight.length), (8, .os 94 0 3 0 i), (80, .c (slL 3 S05.lnE s.lanes.list)), (81, .c (.int .i64 s.lanes.list.length)), (82, .c (.int .i64 i))]
    [(1, sV s), (2, nV), (4, vE [.nil 3, .c (.int .i64 s.lanes.at_), .c (.bool s.lanes.given), .nil 1, .c (slL 1 strE s.dev.disk.secs), .c (slL 2 wrE s.dev.disk.cache), .c (.int .i64 s.dev.next), .nil 4, .nil 5]),
     (76, ⟨4, s.dev.flight.length, .dat fun r j => rqE (s.dev.flight.getD r default) j, false, true⟩), (94, ⟨3, i, .dat fun r j => S05.lnE (s.lanes.list.getD r default) j, false, true⟩)]) (fun i => s.lanes.list.length - i) 0 (Nat.zero_le _) ?_ ?_
  · (refine Le.ofN [94] ?_ ?_ <;> repeat' first | exact trivial | exact SubF.inr ⟨_, _, _, rfl, rfl, rfl⟩ | exact SubF.inl (cI (by push_cast; first | rfl | omega)) | exact SubF.inl (CEq.refl _) | exact SubF.inl rfl | exact SubF.inl trivial | exact SubF.inl ⟨rfl, rfl, rfl⟩ | exact SubF.inl ⟨rfl, rfl, rfl, rfl, rfl⟩ | exact Or.inl ⟨rfl, rfl⟩ | refine Or.inr ⟨rfl, _, rfl, ?_⟩ | refine SubEF.var2 ?_ ?_ | refine SubEF.var1 ?_ | refine SubEF.var3 ?_ ?_ ?_ | refine SubEF.varN ?_ | refine SubEF.var4 ?_ ?_ ?_ ?_ | exact SubEF.of (SubE.dat fun _ _ _ _ => CEq.refl _) | refine And.intro ?_ ?_ | refine SubF.frz rfl rfl rfl rfl (Nat.le_of_eq (Nat.zero_add _)) rfl rfl ?_)
    all_goals fail
  rintro Q hQ i hi
  repeat' first | (with_reducible first | refine wkI ?_ | exact ⟨⟩ | refine wkB (fun _ => ?_) fun _ => ?_ | refine wkT (fun _ => ?_) ?_) | ((with_reducible refine wkC ?_ ?_); exact CEq.refl _) | (with_reducible refine wkL ?_) | ((with_reducible fail_if_success first | constructor | show False); conv => whnf)
  · rename_i g1
    have g1 : i < s.lanes.list.length := by have := of_decide_eq_true g1; omega
    have hl2 := (h.1.1.2.2 i g1).2.2.1
    repeat' first | (with_reducible first | refine wkI ?_ | exact ⟨⟩ | refine wkB (fun _ => ?_) fun _ => ?_ | refine wkT (fun _ => ?_) ?_) | ((with_reducible refine wkC ?_ ?_); exact CEq.refl _) | (with_reducible refine wkL ?_) | ((with_reducible fail_if_success first | constructor | show False); conv => whnf)
    · rename_i z
      exfalso
      have z := of_decide_eq_true z
      rw [Int.toNat_natCast] at z
      omega
    refine LoopEnd.mk ⟨i + 1, g1, by omega, ?_⟩
    clear hQ
    (refine Le.of ?_ ?_ <;> repeat' first | exact trivial | exact CEq.refl _ | exact rfl | exact cI (by push_cast; first | rfl | omega) | exact SubE.dat fun _ _ _ _ => CEq.refl _ | refine SubE.varN ?_ | refine Exists.intro _ (And.intro rfl ?_) | refine And.intro ?_ ?_)
    refine SubE.dat (app_row (enc := S05.lnE) (L := s.lanes.list) fun j hj => ?_)
    have hj : j < 3 := hj
    rcases (show j = 0 ∨ j = 1 ∨ j = 2 by omega) with rfl | rfl | rfl <;> exact CEq.refl _
  rename_i g1
  have g1 : i = s.lanes.list.length := by have := of_decide_eq_false g1; omega
  subst g1
  refine Out.mk (hQ _ _ ?_)
  clear hQ Q
  repeat' first | (with_reducible first | refine wkI ?_ | exact ⟨⟩ | refine wkB (fun _ => ?_) fun _ => ?_ | refine wkT (fun _ => ?_) ?_) | ((with_reducible refine wkC ?_ ?_); exact CEq.refl _) | (with_reducible refine wkL ?_) | ((with_reducible fail_if_success first | constructor | show False); conv => whnf)
  refine LoopVC.inv (fun i : Nat => i ≤ s.jobs.length) (fun i => stL [(1, .va 1 0 0), (2, .va 2 0 0), (4, .va 4 0 0), (103, .c (slL 1 jlE s.jobs)), (104, .c (.int .i64 s.jobs.length)), (105, .c (.int .i64 i))]
    [(1, sV s), (2, nV), (4, vE [.os 94 0 3 0 s.lanes.list.length, .c (.int .i64 s.lanes.at_), .c (.bool s.lanes.given), .os 128 0 1 0 i, .c (slL 1 strE s.dev.disk.secs), .c (slL 2 wrE s.dev.disk.cache), .c (.int .i64 s.dev.next), .os 76 0 4 0 s.dev.flight.length, .nil 5]),
     (76, ⟨4, s.dev.flight.length, .dat fun r j => rqE (s.dev.flight.getD r default) j, false, true⟩), (94, ⟨3, s.lanes.list.length, .dat fun r j => S05.lnE (s.lanes.list.getD r default) j, false, true⟩), (128, ⟨1, i, .dat fun r j => jlE (s.jobs.getD r default) j, false, true⟩)]) (fun i => s.jobs.length - i) 0 (Nat.zero_le _) ?_ ?_
  · (refine Le.ofN [128] ?_ ?_ <;> repeat' first | exact trivial | exact SubF.inr ⟨_, _, _, rfl, rfl, rfl⟩ | exact SubF.inl (cI (by push_cast; first | rfl | omega)) | exact SubF.inl (CEq.refl _) | exact SubF.inl rfl | exact SubF.inl trivial | exact SubF.inl ⟨rfl, rfl, rfl⟩ | exact SubF.inl ⟨rfl, rfl, rfl, rfl, rfl⟩ | exact Or.inl ⟨rfl, rfl⟩ | refine Or.inr ⟨rfl, _, rfl, ?_⟩ | refine SubEF.var2 ?_ ?_ | refine SubEF.var1 ?_ | refine SubEF.var3 ?_ ?_ ?_ | refine SubEF.varN ?_ | refine SubEF.var4 ?_ ?_ ?_ ?_ | exact SubEF.of (SubE.dat fun _ _ _ _ => CEq.refl _) | refine And.intro ?_ ?_ | refine SubF.frz rfl rfl rfl rfl (Nat.le_of_eq (Nat.zero_add _)) rfl rfl ?_)
  rintro Q hQ i hi
  repeat' first | (with_reducible first | refine wkI ?_ | exact ⟨⟩ | refine wkB (fun _ => ?_) fun _ => ?_ | refine wkT (fun _ => ?_) ?_) | ((with_reducible refine wkC ?_ ?_); exact CEq.refl _) | (with_reducible refine wkL ?_) | ((with_reducible fail_if_success first | constructor | show False); conv => whnf)
  · rename_i g1
    have g1 : i < s.jobs.length := by have := of_decide_eq_true g1; omega
    have hl2 := (h.1.1.2.2 i (by omega)).2.2.1
    have hl3 := (h.2.2.1 i g1).1
    repeat' first | (with_reducible first | refine wkI ?_ | exact ⟨⟩ | refine wkB (fun _ => ?_) fun _ => ?_ | refine wkT (fun _ => ?_) ?_) | ((with_reducible refine wkC ?_ ?_); exact CEq.refl _) | (with_reducible refine wkL ?_) | ((with_reducible fail_if_success first | constructor | show False); conv => whnf)
    · rename_i z
      exfalso
      have z := of_decide_eq_true z
      rw [Int.toNat_natCast] at z
      omega
    rw [Int.toNat_natCast]
    refine LoopVC.inv (fun k : Nat => k ≤ (s.jobs.getD i default).length) (fun k => stL [(1, .va 1 0 0), (2, .va 2 0 0), (4, .va 4 0 0), (13, .os 122 0 5 0 k), (103, .c (slL 1 jlE s.jobs)), (104, .c (.int .i64 s.jobs.length)), (105, .c (.int .i64 i)), (113, .c (slL 5 jbE (s.jobs.getD i default))), (114, .c (.int .i64 (s.jobs.getD i default).length)), (115, .c (.int .i64 k))]
      [(1, sV s), (2, nV), (4, vE [.os 94 0 3 0 s.lanes.list.length, .c (.int .i64 s.lanes.at_), .c (.bool s.lanes.given), .os 128 0 1 0 i, .c (slL 1 strE s.dev.disk.secs), .c (slL 2 wrE s.dev.disk.cache), .c (.int .i64 s.dev.next), .os 76 0 4 0 s.dev.flight.length, .nil 5]),
       (76, ⟨4, s.dev.flight.length, .dat fun r j => rqE (s.dev.flight.getD r default) j, false, true⟩), (94, ⟨3, s.lanes.list.length, .dat fun r j => S05.lnE (s.lanes.list.getD r default) j, false, true⟩), (128, ⟨1, i, .dat fun r j => jlE (s.jobs.getD r default) j, false, true⟩), (122, ⟨5, k, .dat fun r j => jbE ((s.jobs.getD i default).getD r default) j, false, true⟩)]) (fun k => (s.jobs.getD i default).length - k) 0 (Nat.zero_le _) ?_ ?_
    · clear hQ
      (refine Le.ofN [122] ?_ ?_ <;> repeat' first | exact trivial | exact SubF.inr ⟨_, _, _, rfl, rfl, rfl⟩ | exact SubF.inl (cI (by push_cast; first | rfl | omega)) | exact SubF.inl (CEq.refl _) | exact SubF.inl rfl | exact SubF.inl trivial | exact SubF.inl ⟨rfl, rfl, rfl⟩ | exact SubF.inl ⟨rfl, rfl, rfl, rfl, rfl⟩ | exact Or.inl ⟨rfl, rfl⟩ | refine Or.inr ⟨rfl, _, rfl, ?_⟩ | refine SubEF.var2 ?_ ?_ | refine SubEF.var1 ?_ | refine SubEF.var3 ?_ ?_ ?_ | refine SubEF.varN ?_ | refine SubEF.var4 ?_ ?_ ?_ ?_ | exact SubEF.of (SubE.dat fun _ _ _ _ => CEq.refl _) | refine And.intro ?_ ?_ | refine SubF.frz rfl rfl rfl rfl (Nat.le_of_eq (Nat.zero_add _)) rfl rfl ?_)
    rintro Q2 hQ2 k hk
    repeat' first | (with_reducible first | refine wkI ?_ | exact ⟨⟩ | refine wkB (fun _ => ?_) fun _ => ?_ | refine wkT (fun _ => ?_) ?_) | ((with_reducible refine wkC ?_ ?_); exact CEq.refl _) | (with_reducible refine wkL ?_) | ((with_reducible fail_if_success first | constructor | show False); conv => whnf)
    · rename_i g2
      have g2 : k < (s.jobs.getD i default).length := by have := of_decide_eq_true g2; omega
      repeat' first | (with_reducible first | refine wkI ?_ | exact ⟨⟩ | refine wkB (fun _ => ?_) fun _ => ?_ | refine wkT (fun _ => ?_) ?_) | ((with_reducible refine wkC ?_ ?_); exact CEq.refl _) | (with_reducible refine wkL ?_) | ((with_reducible fail_if_success first | constructor | show False); conv => whnf)
      refine LoopEnd.mk ⟨k + 1, g2, by omega, ?_⟩
      clear hQ hQ2
      (refine Le.of ?_ ?_ <;> repeat' first | exact trivial | exact CEq.refl _ | exact rfl | exact cI (by push_cast; first | rfl | omega) | exact SubE.dat fun _ _ _ _ => CEq.refl _ | refine SubE.varN ?_ | refine Exists.intro _ (And.intro rfl ?_) | refine And.intro ?_ ?_)
      refine SubE.dat (app_row (enc := jbE) (L := s.jobs.getD i default) fun j hj => ?_)
      have hj : j < 5 := hj
      rcases (show j = 0 ∨ j = 1 ∨ j = 2 ∨ j = 3 ∨ j = 4 by omega) with rfl | rfl | rfl | rfl | rfl <;> exact CEq.refl _
    rename_i g2
    have g2 : k = (s.jobs.getD i default).length := by have := of_decide_eq_false g2; omega
    subst g2
    refine Out.mk (hQ2 _ _ ?_)
    clear hQ2 Q2
    repeat' first | (with_reducible first | refine wkI ?_ | exact ⟨⟩ | refine wkB (fun _ => ?_) fun _ => ?_ | refine wkT (fun _ => ?_) ?_) | ((with_reducible refine wkC ?_ ?_); exact CEq.refl _) | (with_reducible refine wkL ?_) | ((with_reducible fail_if_success first | constructor | show False); conv => whnf)
    refine LoopEnd.mk ⟨i + 1, g1, by omega, ?_⟩
    clear hQ
    (refine Le.of ?_ ?_ <;> repeat' first | exact trivial | exact CEq.refl _ | exact rfl | exact cI (by push_cast; first | rfl | omega) | exact SubE.dat fun _ _ _ _ => CEq.refl _ | refine SubE.varN ?_ | refine Exists.intro _ (And.intro rfl ?_) | refine And.intro ?_ ?_)
    refine SubE.dat (app_row (enc := jlE) (L := s.jobs) fun j hj => ?_)
    have hj : j < 1 := hj
    obtain rfl : j = 0 := by omega
    exact IsL.ceq (l := s.jobs.getD i default) IsL.refl.off rfl
  rename_i g1
  have g1 : i = s.jobs.length := by have := of_decide_eq_false g1; omega
  subst g1
  refine Out.mk (hQ _ _ ?_)
  clear hQ Q
  repeat' first | (with_reducible first | refine wkI ?_ | exact ⟨⟩ | refine wkB (fun _ => ?_) fun _ => ?_ | refine wkT (fun _ => ?_) ?_) | ((with_reducible refine wkC ?_ ?_); exact CEq.refl _) | (with_reducible refine wkL ?_) | ((with_reducible fail_if_success first | constructor | show False); conv => whnf)
  refine LoopVC.inv (fun i : Nat => i ≤ s.out.length) (fun i => stL [(2, .va 2 0 0), (4, .va 4 0 0), (132, .c (slL 5 jbE s.out)), (133, .c (.int .i64 s.out.length)), (134, .c (.int .i64 i))]
    [(2, nV), (4, vE [.os 94 0 3 0 s.lanes.list.length, .c (.int .i64 s.lanes.at_), .c (.bool s.lanes.given), .os 128 0 1 0 s.jobs.length, .c (slL 1 strE s.dev.disk.secs), .c (slL 2 wrE s.dev.disk.cache), .c (.int .i64 s.dev.next), .os 76 0 4 0 s.dev.flight.length, .os 142 0 5 0 i]),
     (76, ⟨4, s.dev.flight.length, .dat fun r j => rqE (s.dev.flight.getD r default) j, false, true⟩), (94, ⟨3, s.lanes.list.length, .dat fun r j => S05.lnE (s.lanes.list.getD r default) j, false, true⟩), (128, ⟨1, s.jobs.length, .dat fun r j => jlE (s.jobs.getD r default) j, false, true⟩), (142, ⟨5, i, .dat fun r j => jbE (s.out.getD r default) j, false, true⟩)]) (fun i => s.out.length - i) 0 (Nat.zero_le _) ?_ ?_
  · (refine Le.ofN [142] ?_ ?_ <;> repeat' first | exact trivial | exact SubF.inr ⟨_, _, _, rfl, rfl, rfl⟩ | exact SubF.inl (cI (by push_cast; first | rfl | omega)) | exact SubF.inl (CEq.refl _) | exact SubF.inl rfl | exact SubF.inl trivial | exact SubF.inl ⟨rfl, rfl, rfl⟩ | exact SubF.inl ⟨rfl, rfl, rfl, rfl, rfl⟩ | exact Or.inl ⟨rfl, rfl⟩ | refine Or.inr ⟨rfl, _, rfl, ?_⟩ | refine SubEF.var2 ?_ ?_ | refine SubEF.var1 ?_ | refine SubEF.var3 ?_ ?_ ?_ | refine SubEF.varN ?_ | refine SubEF.var4 ?_ ?_ ?_ ?_ | exact SubEF.of (SubE.dat fun _ _ _ _ => CEq.refl _) | refine And.intro ?_ ?_ | refine SubF.frz rfl rfl rfl rfl (Nat.le_of_eq (Nat.zero_add _)) rfl rfl ?_)
  rintro Q hQ i hi
  repeat' first | (with_reducible first | refine wkI ?_ | exact ⟨⟩ | refine wkB (fun _ => ?_) fun _ => ?_ | refine wkT (fun _ => ?_) ?_) | ((with_reducible refine wkC ?_ ?_); exact CEq.refl _) | (with_reducible refine wkL ?_) | ((with_reducible fail_if_success first | constructor | show False); conv => whnf)
  · rename_i g1
    have g1 : i < s.out.length := by have := of_decide_eq_true g1; omega
    repeat' first | (with_reducible first | refine wkI ?_ | exact ⟨⟩ | refine wkB (fun _ => ?_) fun _ => ?_ | refine wkT (fun _ => ?_) ?_) | ((with_reducible refine wkC ?_ ?_); exact CEq.refl _) | (with_reducible refine wkL ?_) | ((with_reducible fail_if_success first | constructor | show False); conv => whnf)
    refine LoopEnd.mk ⟨i + 1, g1, by omega, ?_⟩
    clear hQ
    (refine Le.of ?_ ?_ <;> repeat' first | exact trivial | exact CEq.refl _ | exact rfl | exact cI (by push_cast; first | rfl | omega) | exact SubE.dat fun _ _ _ _ => CEq.refl _ | refine SubE.varN ?_ | refine Exists.intro _ (And.intro rfl ?_) | refine And.intro ?_ ?_)
    refine SubE.dat (app_row (enc := jbE) (L := s.out) fun j hj => ?_)
    have hj : j < 5 := hj
    rcases (show j = 0 ∨ j = 1 ∨ j = 2 ∨ j = 3 ∨ j = 4 by omega) with rfl | rfl | rfl | rfl | rfl <;> exact CEq.refl _
  rename_i g1
  have g1 : i = s.out.length := by have := of_decide_eq_false g1; omega
  subst g1
  refine Out.mk (hQ _ _ ?_)
  clear hQ Q
  repeat' first | (with_reducible first | refine wkI ?_ | exact ⟨⟩ | refine wkB (fun _ => ?_) fun _ => ?_ | refine wkT (fun _ => ?_) ?_) | ((with_reducible refine wkC ?_ ?_); exact CEq.refl _) | (with_reducible refine wkL ?_) | ((with_reducible fail_if_success first | constructor | show False); conv => whnf)
  all_goals fail
end
end Lk.S06
namespace Lk.S06
open Go Lk Lk.C Lk.S03 Lk.S04
structure KLS (P : Program) (F : Nat → Nat) : Prop where
  k : KSd P F
  new4 : law04_New_k P F
  awake : law06_awake_k P F
def q0 : Sd := (newS v0 [1, 2]).1
def q1 : Sd := (askS q0 ⟨1, 1, 3, [], 0⟩).1
def q2 : Sd := pumpS q1
def q3 : Sd := (doneS q2 0 true).1
def q4 : Jb × Int × Bool := (doneS q3 0 false).2
theorem e0 : (newS v0 [1, 2]).2 = 0 := by decide +kernel
theorem r0 : rightS q0 := by decide +kernel
theorem e1 : (askS q0 ⟨1, 1, 3, [], 0⟩).2 = 0 := by decide +kernel
theorem r1 : rightS q1 := by decide +kernel
theorem r2 : rightS q2 := by decide +kernel
theorem o2 : q2.out.length = 1 := by decide +kernel
theorem e3 : (doneS q2 0 true).2.2.2 = false := by decide +kernel
theorem r3 : rightS q3 := by decide +kernel
theorem o3 : q3.out.length = 1 := by decide +kernel
theorem e4 : q4.1.who = 1 ∧ q4.1.tries = 2 ∧ q4.1.data.length = 32 ∧ q4.2.1 = 0 ∧ q4.2.2 = true := by decide +kernel
theorem sv0' : SmallV v0 := ⟨⟨by decide, by decide, by decide +kernel, by decide +kernel⟩, by decide, by decide +kernel⟩
section
variable {P : Program} {F : Nat → Nat}
theorem awake_ok (L : KLS P F) : FnOk P (F 176) [] [.one (.im (.bool true))] := by
  have K := L.k
  refine fnOk K.d.k.m L.awake ?_
  repeat' first | (with_reducible first | refine wkI ?_ | exact ⟨⟩ | refine wkB (fun _ => ?_) fun _ => ?_ | refine wkT (fun _ => ?_) ?_ | refine wkL ?_) | ((with_reducible refine wkC ?_ ?_); exact CEq.refl _) | ((with_reducible fail_if_success first | constructor | show False); conv => whnf)
  refine CallVC.mk' (fun _ => S04.new_ok K.d L.new4) (fun _ => .nil) ?_
  repeat' first | (with_reducible first | refine wkI ?_ | exact ⟨⟩ | refine wkB (fun _ => ?_) fun _ => ?_ | refine wkT (fun _ => ?_) ?_ | refine wkL ?_) | ((with_reducible refine wkC ?_ ?_); exact CEq.refl _) | ((with_reducible fail_if_success first | constructor | show False); conv => whnf)
  refine CallVC.mk' (fun _ => newS_ok K v0 [1, 2] sv0' (by decide)) (fun _ => .cons ((mC4 (by rfl))) (.cons (.one (IsL.ceq (l := [1, 2]) (fun i hi j hj => by (obtain rfl : j = 0 := (by omega)); (rcases (show i = 0 ∨ i = 1 by (have hi : i < 2 := hi; omega)) with rfl | rfl <;> exact CEq.refl _)) rfl)) .nil)) ?_
  rw [e0, show (newS v0 [1, 2]).1 = q0 from rfl]
  repeat' first | (with_reducible first | refine wkI ?_ | exact ⟨⟩ | refine wkB (fun _ => ?_) fun _ => ?_ | refine wkT (fun _ => ?_) ?_ | refine wkL ?_) | ((with_reducible refine wkC ?_ ?_); exact CEq.refl _) | ((with_reducible fail_if_success first | constructor | show False); conv => whnf)
  refine CallVC.mk' (fun _ => ask_ok K q0 ⟨1, 1, 3, [], 0⟩ r0.small (by decide)) (fun _ => .cons ((mC9 (by rfl))) (.cons ((mC5 (by rfl))) .nil)) ?_
  rw [e1, show (askS q0 ⟨1, 1, 3, [], 0⟩).1 = q1 from rfl]
  repeat' first | (with_reducible first | refine wkI ?_ | exact ⟨⟩ | refine wkB (fun _ => ?_) fun _ => ?_ | refine wkT (fun _ => ?_) ?_ | refine wkL ?_) | ((with_reducible refine wkC ?_ ?_); exact CEq.refl _) | ((with_reducible fail_if_success first | constructor | show False); conv => whnf)
  refine CallVC.mk' (fun _ => pump_ok K q1 r1.small) (fun _ => .cons ((mC9 (by rfl))) .nil) ?_
  rw [show pumpS q1 = q2 from rfl]
  repeat' first | (with_reducible first | refine wkI ?_ | exact ⟨⟩ | refine wkB (fun _ => ?_) fun _ => ?_ | refine wkT (fun _ => ?_) ?_ | refine wkL ?_) | ((with_reducible refine wkC ?_ ?_); exact CEq.refl _) | ((with_reducible fail_if_success first | constructor | show False); conv => whnf)
  have h3 := e3
  have h3' : (doneS q2 0 true).1 = q3 := rfl
  have h2 := o2
  have k2 := r2
  generalize q2 = q2 at *
  refine CallVC.mk' (fun _ => done_ok K q2 0 true k2.small) (fun _ => .cons ((mC9 (by rfl))) (.cons (.one (CEq.refl _)) (.cons (.one (CEq.refl _)) .nil))) ?_
  rw [h3, h3']
  generalize (doneS q2 0 true).2.1 = jj
  repeat' first | (with_reducible first | refine wkI ?_ | exact ⟨⟩ | refine wkB (fun _ => ?_) fun _ => ?_ | refine wkT (fun _ => ?_) ?_ | refine wkL ?_) | ((with_reducible refine wkC ?_ ?_); exact CEq.refl _) | ((with_reducible fail_if_success first | constructor | show False); conv => whnf)
  have h4 := e4
  have h4' : (doneS q3 0 false).2 = q4 := rfl
  have o3 := o3
  have k3 := r3
  generalize q3 = q3 at *
  refine CallVC.mk' (fun _ => done_ok K q3 0 false k3.small) (fun _ => .cons ((mC9 (by rfl))) (.cons (.one (CEq.refl _)) (.cons (.one (CEq.refl _)) .nil))) ?_
  rw [h4']
  generalize q4 = q4 at *
  generalize (doneS q3 0 false).1 = qq
  repeat' first | (with_reducible first | refine wkI ?_ | exact ⟨⟩ | refine wkB (fun _ => ?_) fun _ => ?_ | refine wkT (fun _ => ?_) ?_ | refine wkL ?_) | ((with_reducible refine wkC ?_ ?_); exact CEq.refl _) | ((with_reducible fail_if_success first | constructor | show False); conv => whnf)
  refine CallVC.mk' (fun _ => right_ok K q2 k2.small) (fun _ => .cons ((mC9 (by rfl))) .nil) ?_
  rw [decide_eq_true k2, h2, o3, h4.1, h4.2.1, h4.2.2.1, h4.2.2.2.1, h4.2.2.2.2]
  repeat' first | (with_reducible first | refine wkI ?_ | exact ⟨⟩ | refine wkB (fun _ => ?_) fun _ => ?_ | refine wkT (fun _ => ?_) ?_ | refine wkL ?_) | ((with_reducible refine wkC ?_ ?_); exact CEq.refl _) | ((with_reducible fail_if_success first | constructor | show False); conv => whnf)
end
end Lk.S06
namespace Lk.S06
open Go Lk Lk.C Lk.S03 Lk.S04
structure Ac where
  kind : Int
  n : Int
  j : Jb
instance : Inhabited Ac := ⟨⟨0, 0, default⟩⟩
def acE (a : Ac) (j : Nat) : Cell :=
  match j with
  | 0 => .int .i64 a.kind
  | 1 => .int .i64 a.n
  | 2 => .int .i64 a.j.who
  | 3 => .int .i64 a.j.kind
  | 4 => .int .i64 a.j.page
  | 5 => .str a.j.data
  | _ => .int .i64 a.j.tries
def EAc : Enc Ac where
  sh := [.int .i64, .int .i64, .int .i64, .int .i64, .int .i64, .str, .int .i64]
  enc := acE
  wf x := x.j.data.length ≤ 9223372036854775807 ∧ (rng .i64 x.n ∧ rng .i64 x.kind) ∧ EJb.wf x.j
  dec g h := by
    obtain ⟨k, hk, r1⟩ := (h 0 _ rfl).intE
    obtain ⟨n, hn, r2⟩ := (h 1 _ rfl).intE
    obtain ⟨a, ha, r3⟩ := (h 2 _ rfl).intE
    obtain ⟨b, hb, _⟩ := (h 3 _ rfl).intE
    obtain ⟨c, hc, _⟩ := (h 4 _ rfl).intE
    obtain ⟨s, hs, hl⟩ := (h 5 _ rfl).strE
    obtain ⟨e, he, r4⟩ := (h 6 _ rfl).intE
    refine ⟨⟨k, n, ⟨a, b, c, s, e⟩⟩, ⟨hl, ⟨r2, r1⟩, hl, r3, r4⟩, fun j hj => ?_⟩
    have hj : j < 7 := hj
    rcases (show j = 0 ∨ j = 1 ∨ j = 2 ∨ j = 3 ∨ j = 4 ∨ j = 5 ∨ j = 6 by omega) with rfl | rfl | rfl | rfl | rfl | rfl | rfl
    · rw [hk]; exact CEq.refl _
    · rw [hn]; exact CEq.refl _
    · rw [ha]; exact CEq.refl _
    · rw [hb]; exact CEq.refl _
    · rw [hc]; exact CEq.refl _
    · rw [hs]; exact CEq.refl _
    · rw [he]; exact CEq.refl _
structure ON (i a t : Nat) (s : Sd) : Prop where
  r : rightS s
  n : s.dev.next ≤ 4 * i
  e : a = t + (s.out.length + wtg s.jobs)
  a : a ≤ i
variable {i a t : Nat} {s : Sd}
theorem ON.ask (h : ON i a t s) (x : Jb) : ON (i + 1) (a + (if (askS s x).2 = 0 then 1 else 0)) t (askS s x).1 := by
  obtain ⟨f1, f2, f3, f4, f5⟩ := ask_fx (s := s) (x := x)
  have := h.e
  have := h.a
  have := h.n
  exact ⟨ask_right h.r, by rw [f2]; omega, by rw [f1, f3]; omega, by split <;> omega⟩
theorem ON.pump (h : ON i a t s) : ON (i + 1) a t (pumpS s) := by
  obtain ⟨f1, f2, f3, f4⟩ := pump_fx h.r
  have := h.e
  have := h.a
  have := h.n
  exact ⟨pump_right h.r, by omega, by omega, by omega⟩
theorem ON.done (h : ON i a t s) (n : Int) (f : Bool) : ON (i + 1) a (t + (if (doneS s n f).2.2.2 = true then 1 else 0)) (doneS s n f).1 := by
  obtain ⟨f1, f2, f3, f4, f5⟩ := done_fx (i := n) (f := f) h.r
  have := h.e
  have := h.a
  have := h.n
  exact ⟨done_right h.r, by omega, by rw [f1]; omega, by omega⟩
theorem ON.skip (h : ON i a t s) : ON (i + 1) a t s := ⟨h.r, by have := h.n; omega, h.e, by have := h.a; omega⟩
def p0 : Sd := (newS v0 [1, 3]).1
theorem p0r : rightS p0 := by decide +kernel
theorem p0n : p0.dev.next = 0 ∧ p0.out.length = 0 ∧ wtg p0.jobs = 0 := by decide +kernel
theorem ON.zero : ON 0 0 0 p0 := ⟨p0r, by rw [p0n.1]; decide, by rw [p0n.2.1, p0n.2.2], Nat.le_refl _⟩
section
variable {P : Program} {F : Nat → Nat}
end
end Lk.S06
namespace Lk.S06
open Go Lk Lk.C Lk.S03 Lk.S04
structure WS (s : Sd) : Prop where
  r : rightS s
  n : s.lanes.list.length = 2
  a : (s.lanes.list.getD 0 default).weight = 1
  b : (s.lanes.list.getD 1 default).weight = 3
variable {s : Sd}
theorem WS.to {s2 : Sd} (h : WS s) (hr : rightS s2) (hl : s2.lanes.list.length = s.lanes.list.length) (hw : ∀ i, i < s.lanes.list.length → (s2.lanes.list.getD i default).weight = (s.lanes.list.getD i default).weight) : WS s2 :=
  ⟨hr, hl.trans h.n, (hw 0 (by rw [h.n]; decide)).trans h.a, (hw 1 (by rw [h.n]; decide)).trans h.b⟩
theorem WS.ask (h : WS s) (x : Jb) : WS (askS s x).1 := h.to (ask_right h.r) (ask_fx).2.2.2.1 (ask_fx).2.2.2.2
theorem WS.pump (h : WS s) : WS (pumpS s) := h.to (pump_right h.r) (pump_fx h.r).2.2.1 (pump_fx h.r).2.2.2
theorem WS.done (h : WS s) (n : Int) (f : Bool) : WS (doneS s n f).1 := h.to (done_right h.r) (by rw [(done_fx h.r).2.1]) (fun i hi => by rw [(done_fx h.r).2.1])
theorem WS.zero : WS p0 := ⟨p0r, by decide +kernel, by decide +kernel, by decide +kernel⟩
theorem WS.map (h : WS s) : s.lanes.list.map (·.weight) = [1, 3] := by
  have hn := h.n
  have ha := h.a
  have hb := h.b
  match hl : s.lanes.list, hn with
  | [x, y], _ =>
    rw [hl] at ha hb
    have ha : x.weight = 1 := ha
    have hb : y.weight = 3 := hb
    show [x.weight, y.weight] = _
    rw [ha, hb]
theorem crash_rightV {d : Dv} {keep : List Int} (h : rightV d) : rightV (crashV d keep) := by
  unfold crashV
  rw [if_pos h]
  refine ⟨⟨h.1.1.crash, ?_⟩, ⟨h.2.1.1, h.2.1.2.1, Nat.zero_le _⟩, fun i hi => absurd hi (Nat.not_lt_zero i)⟩
  show 35 ≤ (d.disk.crash keep).secs.length
  have := h.1.2
  unfold Dsk.crash
  rw [if_pos h.1.1]
  show 35 ≤ (wrS _ _).length
  rw [wrS_len]; exact this
theorem WS.crash (h : WS s) (keep : List Int) : rightS (crashS s keep) ∧ (crashS s keep).out = [] ∧ (crashS s keep).jobs = [[], []] ∧ (crashS s keep).lanes = S05.newL [1, 3] ∧ (crashS s keep).dev = ⟨s.dev.disk.crash keep, s.dev.next, []⟩ := by
  have e : crashS s keep = ⟨S05.newL [1, 3], [[], []], crashV s.dev keep, []⟩ := by unfold crashS; rw [if_pos h.r, h.map, h.n]; rfl
  have ev : crashV s.dev keep = ⟨s.dev.disk.crash keep, s.dev.next, []⟩ := if_pos h.r.1.2
  have hr := crash_rightV (keep := keep) h.r.1.2
  rw [e]
  refine ⟨⟨⟨show S05.right (S05.newL [1, 3]) by decide +kernel, hr⟩, ⟨show ([[], []] : List (List Jb)).length = (S05.newL [1, 3]).list.length by decide +kernel, by rw [ev]; rfl⟩, fun i hi => ?_, fun i hi => absurd hi (Nat.not_lt_zero i)⟩, rfl, rfl, rfl, ev⟩
  have hi : i < 2 := hi
  rcases (show i = 0 ∨ i = 1 by omega) with rfl | rfl
  · exact ⟨show ([] : List Jb).length = ((S05.newL [1, 3]).list.getD 0 default).costs.length by decide +kernel, fun k hk => absurd hk (Nat.not_lt_zero k)⟩
  · exact ⟨show ([] : List Jb).length = ((S05.newL [1, 3]).list.getD 1 default).costs.length by decide +kernel, fun k hk => absurd hk (Nat.not_lt_zero k)⟩
section
variable {P : Program} {F : Nat → Nat}
end
end Lk.S06
namespace Lk.S06
open Go Lk Lk.C Lk.S03 Lk.S04
theorem newLn_getD {w : List Int} {i : Nat} (hi : i < w.length) : (w.map S05.newLn).getD i default = ⟨w.getD i default, 0, []⟩ := by
  rw [getD_eq (show i < (w.map S05.newLn).length by simpa using hi), List.getElem_map, getD_eq hi]; rfl
theorem right_new {w : List Int} : S05.right ⟨w.map S05.newLn, 0, false⟩ ↔ S05.newOk w := by
  have hlen : (w.map S05.newLn).length = w.length := List.length_map ..
  constructor
  · rintro ⟨⟨a, b⟩, -, f⟩
    rw [hlen] at a b
    refine ⟨⟨a, b⟩, fun x hx => ?_⟩
    obtain ⟨i, hi, rfl⟩ := List.mem_iff_getElem.1 hx
    have := (f i (by rw [hlen]; exact hi)).1
    have e : ((w.map S05.newLn).getD i default).weight = w.getD i default := by rw [newLn_getD hi]
    rw [e, getD_eq hi] at this
    exact this
  · rintro ⟨⟨a, b⟩, f⟩
    refine ⟨by rw [hlen]; exact ⟨a, b⟩, ⟨Int.le_refl 0, by show (0 : Int) < ((w.map S05.newLn).length : Int); rw [hlen]; omega⟩, fun i hi => ?_⟩
    have hi : i < w.length := by rw [hlen] at hi; exact hi
    rw [show (⟨w.map S05.newLn, 0, false⟩ : S05.Ls).list.getD i default = ⟨w.getD i default, 0, []⟩ from newLn_getD hi]
    refine ⟨f _ (getD_mem hi), ⟨Int.le_refl 0, ?_⟩, Nat.zero_le _, fun c hc => by cases hc⟩
    unfold S05.mst
    split
    · show (0 : Int) ≤ 39; decide
    · show (0 : Int) ≤ 7; decide
theorem new_right {w : List Int} {d : Dv} (hw : S05.newOk w) (hd : rightV d) (hf : d.flight = []) : rightS ⟨S05.newL w, List.replicate w.length [], d, []⟩ := by
  have e : S05.newL w = ⟨w.map S05.newLn, 0, false⟩ := if_pos hw
  rw [e]
  refine ⟨⟨right_new.2 hw, hd⟩, ⟨by show (List.replicate w.length ([] : List Jb)).length = (w.map S05.newLn).length; simp, by show 0 = d.flight.length; rw [hf]; rfl⟩, fun i hi => ?_, fun i hi => absurd hi (Nat.not_lt_zero i)⟩
  have hi : i < w.length := by simpa using hi
  rw [show (⟨⟨w.map S05.newLn, 0, false⟩, List.replicate w.length [], d, []⟩ : Sd).lanes.list.getD i default = ⟨w.getD i default, 0, []⟩ from newLn_getD hi,
    show (⟨⟨w.map S05.newLn, 0, false⟩, List.replicate w.length [], d, []⟩ : Sd).jobs.getD i default = [] by rw [getD_eq (by simpa using hi)]; simp]
  exact ⟨rfl, fun k hk => absurd hk (Nat.not_lt_zero k)⟩
theorem crashS_right {s : Sd} {keep : List Int} (h : rightS s) : rightS (crashS s keep) := by
  have hw : S05.newOk (s.lanes.list.map (·.weight)) := ⟨by simpa using h.1.1.1, fun w hw => by
    obtain ⟨x, hx, rfl⟩ := List.mem_map.1 hw
    obtain ⟨i, hi, rfl⟩ := List.mem_iff_getElem.1 hx
    have := (h.1.1.2.2 i hi).1
    rw [getD_eq hi] at this; exact this⟩
  have hr := new_right hw (crash_rightV (keep := keep) h.1.2) (by unfold crashV; rw [if_pos h.1.2])
  rw [List.length_map] at hr
  unfold crashS
  rw [if_pos h]
  exact hr
def kpN (m : Nat) : List Int := (List.range m).map fun (i : Nat) => (i : Int)
section
variable {P : Program} {F : Nat → Nat}
theorem schedActs_law (L : KLS P F) (R : KR6 P F) (hk : law06_SchedActs_k P F) (weights : List Int) (acts : List Ac) (hwl : weights.length ≤ 9223372036854775807) (W : (∀ x ∈ acts, EAc.wf x) ∧ acts.length ≤ 9223372036854775807) :
    FnOk P (F 164) [.one (slL 1 intE weights), .one (slL 7 acE acts)] [.one (.im (.bool true))] := by
  have K := L.k
  refine fnOk K.d.k.m hk ?_
  repeat' first | (with_reducible first | refine wkI ?_ | exact ⟨⟩ | refine wkB (fun _ => ?_) fun _ => ?_ | refine wkT (fun _ => ?_) ?_) | ((with_reducible refine wkC ?_ ?_); exact CEq.refl _) | (with_reducible refine wkL ?_) | ((with_reducible fail_if_success first | constructor | show False); conv => whnf)
  · refine CallVC.mk' (fun _ => awake_ok L) (fun _ => .nil) ?_
    repeat' first | (with_reducible first | refine wkI ?_ | exact ⟨⟩ | refine wkB (fun _ => ?_) fun _ => ?_ | refine wkT (fun _ => ?_) ?_) | ((with_reducible refine wkC ?_ ?_); exact CEq.refl _) | (with_reducible refine wkL ?_) | ((with_reducible fail_if_success first | constructor | show False); conv => whnf)
  rename_i h60
  have h60 : weights.length ≤ 20 ∧ acts.length ≤ 60 := by
    rw [Bool.or_eq_false_iff, decide_eq_false_iff_not, decide_eq_false_iff_not] at h60
    omega
  refine CallVC.mk' (fun _ => S04.new_ok K.d L.new4) (fun _ => .nil) ?_
  repeat' first | (with_reducible first | refine wkI ?_ | exact ⟨⟩ | refine wkB (fun _ => ?_) fun _ => ?_ | refine wkT (fun _ => ?_) ?_) | ((with_reducible refine wkC ?_ ?_); exact CEq.refl _) | (with_reducible refine wkL ?_) | ((with_reducible fail_if_success first | constructor | show False); conv => whnf)
  refine CallVC.mk' (fun _ => newS_ok K v0 weights sv0' (by omega)) (fun _ => .cons ((mC4 (by rfl))) (.cons (.one (CEq.refl _)) .nil)) ?_
  have hno : ¬ newNo v0 := by decide +kernel
  have hns : newS v0 weights = if S05.newE weights ≠ 0 then (noS, S05.newE weights) else (⟨S05.newL weights, List.replicate weights.length [], v0, []⟩, 0) := by unfold newS; rw [if_neg hno]
  have rv0 : rightV v0 := by decide +kernel
  generalize newS v0 weights = y at *
  obtain ⟨s0, e0⟩ := y
  repeat' first | (with_reducible first | refine wkI ?_ | exact ⟨⟩ | refine wkB (fun _ => ?_) fun _ => ?_ | refine wkT (fun _ => ?_) ?_) | ((with_reducible refine wkC ?_ ?_); exact CEq.refl _) | (with_reducible refine wkL ?_) | ((with_reducible fail_if_success first | constructor | show False); conv => whnf)
  have hll : (weights.map S05.newLn).length = weights.length := List.length_map ..
  have hli : ∀ i, i < weights.length → (weights.map S05.newLn).getD i default = ⟨weights.getD i default, 0, []⟩ := fun i hi => newLn_getD hi
  have hrn := right_new (w := weights)
  have hnL : S05.newOk weights → S05.newL weights = ⟨weights.map S05.newLn, 0, false⟩ := fun x => if_pos x
  have hnr : S05.newOk weights → rightS ⟨S05.newL weights, List.replicate weights.length [], v0, []⟩ := fun x => new_right x rv0 rfl
  generalize weights.map S05.newLn = LL at *
  refine LoopVC.inv (fun i : Nat => i ≤ weights.length) (fun i => stL [(0, .c (slL 1 intE weights)), (1, .c (slL 7 acE acts)), (5, .va 5 0 0), (6, .c (.int .i64 e0)), (7, .va 7 0 0), (45, .c (slL 1 intE weights)), (46, .c (.int .i64 weights.length)), (47, .c (.int .i64 i))]
    [(5, sV s0), (7, vE [.os 56 0 3 0 i, .c (.int .i64 0), .c (.bool false)]), (56, ⟨3, i, .dat fun r j => S05.lnE (LL.getD r default) j, false, true⟩)]) (fun i => weights.length - i) 0 (Nat.zero_le _) ?_ ?_
  · (refine Le.ofN [56] ?_ ?_ <;> repeat' first | exact trivial | exact SubF.inr ⟨_, _, _, rfl, rfl, rfl⟩ | exact SubF.inl (cI (by push_cast; first | rfl | omega)) | exact SubF.inl (CEq.refl _) | exact SubF.inl rfl | exact SubF.inl trivial | exact SubF.inl ⟨rfl, rfl, rfl⟩ | exact SubF.inl ⟨rfl, rfl, rfl, rfl, rfl⟩ | exact Or.inl ⟨rfl, rfl⟩ | refine Or.inr ⟨rfl, _, rfl, ?_⟩ | refine SubEF.var2 ?_ ?_ | refine SubEF.var1 ?_ | refine SubEF.var3 ?_ ?_ ?_ | refine SubEF.varN ?_ | refine SubEF.var4 ?_ ?_ ?_ ?_ | exact SubEF.of (SubE.dat fun _ _ _ _ => CEq.refl _) | refine And.intro ?_ ?_ | refine SubF.frz rfl rfl rfl rfl (Nat.le_of_eq (Nat.zero_add _)) rfl rfl ?_)
  rintro Q hQ i hi
  repeat' first | (with_reducible first | refine wkI ?_ | exact ⟨⟩ | refine wkB (fun _ => ?_) fun _ => ?_ | refine wkT (fun _ => ?_) ?_) | ((with_reducible refine wkC ?_ ?_); exact CEq.refl _) | (with_reducible refine wkL ?_) | ((with_reducible fail_if_success first | constructor | show False); conv => whnf)
  · rename_i g1
    have g1 : i < weights.length := by have := of_decide_eq_true g1; omega
    repeat' first | (with_reducible first | refine wkI ?_ | exact ⟨⟩ | refine wkB (fun _ => ?_) fun _ => ?_ | refine wkT (fun _ => ?_) ?_) | ((with_reducible refine wkC ?_ ?_); exact CEq.refl _) | (with_reducible refine wkL ?_) | ((with_reducible fail_if_success first | constructor | show False); conv => whnf)
    refine LoopEnd.mk ⟨i + 1, g1, by omega, ?_⟩
    clear hQ
    (refine Le.of ?_ ?_ <;> repeat' first | exact trivial | exact CEq.refl _ | exact rfl | exact cI (by push_cast; first | rfl | omega) | exact SubE.dat fun _ _ _ _ => CEq.refl _ | refine SubE.varN ?_ | refine Exists.intro _ (And.intro rfl ?_) | refine And.intro ?_ ?_)
    refine SubE.dat (app_row (enc := S05.lnE) (L := LL) fun j hj => ?_)
    rw [hli i g1]
    have hj : j < 3 := hj
    rcases (show j = 0 ∨ j = 1 ∨ j = 2 by omega) with rfl | rfl | rfl
    · exact CEq.refl _
    · exact CEq.refl _
    · exact ceq_nil
  rename_i g1
  have g1 : i = weights.length := by have := of_decide_eq_false g1; omega
  subst g1
  refine Out.mk (hQ _ _ ?_)
  clear hQ Q
  repeat' first | (with_reducible first | refine wkI ?_ | exact ⟨⟩ | refine wkB (fun _ => ?_) fun _ => ?_ | refine wkT (fun _ => ?_) ?_) | ((with_reducible refine wkC ?_ ?_); exact CEq.refl _) | (with_reducible refine wkL ?_) | ((with_reducible fail_if_success first | constructor | show False); conv => whnf)
  refine CallVC.mk' (fun _ => S05.rright_ok R.m R.right5 ⟨LL, 0, false⟩ (by show LL.length ≤ 1000000; omega) (fun x hx => by
    have hx : x ∈ LL := hx
    obtain ⟨i, hi, rfl⟩ := List.mem_iff_getElem.1 hx
    rw [← getD_eq hi, hli i (by omega)]; exact Nat.zero_le _)) (fun _ => .cons (.many fun j hj => by
      rcases (show j = 0 ∨ j = 1 ∨ j = 2 by omega) with rfl | rfl | rfl
      · exact IsL.ceq (l := LL) IsL.refl.off hll.symm
      · exact CEq.refl _
      · exact CEq.refl _) .nil) ?_
  by_cases hr : S05.right ⟨LL, 0, false⟩
  · have hok := hrn.1 hr
    have he : S05.newE weights = 0 := if_pos hok
    rw [he, if_neg (by decide)] at hns
    obtain ⟨rfl, rfl⟩ := Prod.mk.inj hns
    have hnr := hnr hok
    rw [hnL hok] at hnr
    rw [decide_eq_true hr, hnL hok]
    clear hrn hnL hns he hr hok
    repeat' first | (with_reducible first | refine wkI ?_ | exact ⟨⟩ | refine wkB (fun _ => ?_) fun _ => ?_ | refine wkT (fun _ => ?_) ?_) | ((with_reducible refine wkC ?_ ?_); exact CEq.refl _) | (with_reducible refine wkL ?_) | ((with_reducible fail_if_success first | constructor | show False); conv => whnf)
    · rename_i z
      cases z
    refine CallVC.mk' (fun _ => S04.new_ok K.d L.new4) (fun _ => .nil) ?_
    repeat' first | (with_reducible first | refine wkI ?_ | exact ⟨⟩ | refine wkB (fun _ => ?_) fun _ => ?_ | refine wkT (fun _ => ?_) ?_) | ((with_reducible refine wkC ?_ ?_); exact CEq.refl _) | (with_reducible refine wkL ?_) | ((with_reducible fail_if_success first | constructor | show False); conv => whnf)
    · rename_i z
      exact absurd z (by decide)
    refine LoopVC.inv (X := Sd × Nat) (fun x => x.2 ≤ acts.length ∧ rightS x.1) (fun x => stL [(5, .va 5 0 0), (10, .va 10 0 0), (83, .c (slL 7 acE acts)), (84, .c (.int .i64 acts.length)), (85, .c (.int .i64 x.2))] [(5, sV x.1), (10, sV x.1)])
      (fun x => acts.length - x.2) (⟨⟨LL, 0, false⟩, List.replicate weights.length [], v0, []⟩, 0) ⟨Nat.zero_le _, hnr⟩ ?_ ?_
    · refine Le.trans (s2 := stL [(5, .va 5 0 0), (10, .va 10 0 0), (83, .c (slL 7 acE acts)), (84, .c (.int .i64 acts.length)), (85, .c (.int .i64 (0 : Nat)))]
        [(5, sV ⟨⟨LL, 0, false⟩, List.replicate weights.length [], v0, []⟩), (10, vE [.os 56 0 3 0 weights.length, .c (.int .i64 0), .c (.bool false), .os 76 0 1 0 weights.length, .c (slL 1 strE v0.disk.secs), .c (slL 2 wrE v0.disk.cache), .c (.int .i64 0), .nil 4, .nil 5]),
         (56, ⟨3, weights.length, .dat fun r j => S05.lnE (LL.getD r default) j, true, true⟩), (76, ⟨1, weights.length, .dat fun _ _ => slL 5 jbE [], true, true⟩)]) ?_ ?_
      · (refine Le.of ?_ ?_ <;> repeat' first | exact trivial | exact CEq.refl _ | exact rfl | exact cI (by push_cast; first | rfl | omega) | exact SubE.dat fun _ _ _ _ => CEq.refl _ | refine SubE.varN ?_ | refine Exists.intro _ (And.intro rfl ?_) | refine And.intro ?_ ?_)
        all_goals first | exact ⟨rfl, rfl, fun _ => rfl, id, fun i hi j hj => CEq.refl _⟩ | exact ⟨rfl, rfl, fun _ => rfl, id, fun r hr j hj => rfl⟩
      · (refine Le.ofN [] ?_ ?_ <;> repeat' first | exact trivial | exact SubF.inr ⟨_, _, _, rfl, rfl, rfl⟩ | exact SubF.inl (cI (by push_cast; first | rfl | omega)) | exact SubF.inl (CEq.refl _) | exact SubF.inl rfl | exact SubF.inl trivial | exact SubF.inl ⟨rfl, rfl, rfl⟩ | exact SubF.inl ⟨rfl, rfl, rfl, rfl, rfl⟩ | exact Or.inl ⟨rfl, rfl⟩ | refine Or.inr ⟨rfl, _, rfl, ?_⟩ | refine SubEF.var2 ?_ ?_ | refine SubEF.var1 ?_ | refine SubEF.var3 ?_ ?_ ?_ | refine SubEF.varN ?_ | refine SubEF.var4 ?_ ?_ ?_ ?_ | exact SubEF.of (SubE.dat fun _ _ _ _ => CEq.refl _) | refine And.intro ?_ ?_ | refine SubF.frz rfl rfl rfl rfl (Nat.le_of_eq (Nat.zero_add _)) rfl rfl ?_)
        · exact IsL.ceq (l := LL) IsL.refl.off hll.symm
        · exact (nilsL fun i j => ⟨_, _, rfl⟩).ceq (by simp)
    clear hnr hll hli
    rintro Q hQ ⟨s, i⟩ ⟨hi, r⟩
    dsimp only at hi r
    dsimp only
    have S := r.small
    repeat' first | (with_reducible first | refine wkI ?_ | exact ⟨⟩ | refine wkB (fun _ => ?_) fun _ => ?_ | refine wkT (fun _ => ?_) ?_) | ((with_reducible refine wkC ?_ ?_); exact CEq.refl _) | (with_reducible refine wkL ?_) | ((with_reducible fail_if_success first | constructor | show False); conv => whnf)
    · rename_i g
      have g : i < acts.length := by have := of_decide_eq_true g; omega
      have Wx := W.1 _ (getD_mem g)
      repeat' first | (with_reducible first | refine wkI ?_ | exact ⟨⟩ | refine wkB (fun _ => ?_) fun _ => ?_ | refine wkT (fun _ => ?_) ?_) | ((with_reducible refine wkC ?_ ?_); exact CEq.refl _) | (with_reducible refine wkL ?_) | ((with_reducible fail_if_success first | constructor | show False); conv => whnf)
      · refine CallVC.mk' (fun _ => awake_ok L) (fun _ => .nil) ?_
        repeat' first | (with_reducible first | refine wkI ?_ | exact ⟨⟩ | refine wkB (fun _ => ?_) fun _ => ?_ | refine wkT (fun _ => ?_) ?_) | ((with_reducible refine wkC ?_ ?_); exact CEq.refl _) | (with_reducible refine wkL ?_) | ((with_reducible fail_if_success first | constructor | show False); conv => whnf)
        refine Out.mk (hQ _ _ ?_)
        repeat' first | (with_reducible first | refine wkI ?_ | exact ⟨⟩ | refine wkB (fun _ => ?_) fun _ => ?_ | refine wkT (fun _ => ?_) ?_) | ((with_reducible refine wkC ?_ ?_); exact CEq.refl _) | (with_reducible refine wkL ?_) | ((with_reducible fail_if_success first | constructor | show False); conv => whnf)
      · rename_i g5 g6
        have g5 : ¬ 100 < (acts.getD i default).j.data.length := by have := of_decide_eq_false g5; rw [Int.toNat_natCast] at this; omega
        rw [Int.toNat_natCast]
        generalize acts.getD i default = x at *
        refine CallVC.mk' (fun _ => ask_ok K s x.j S Wx.1) (fun _ => .cons ((mC9 (by rfl))) (.cons ((mC5 (by rfl))) .nil)) ?_
        have r2 := ask_right (x := x.j) r
        have rk := rask_ok R s x.j r (by omega)
        generalize askS s x.j = y at *
        obtain ⟨s2, e2⟩ := y
        dsimp only at r2
        repeat' first | (with_reducible first | refine wkI ?_ | exact ⟨⟩ | refine wkB (fun _ => ?_) fun _ => ?_ | refine wkT (fun _ => ?_) ?_) | ((with_reducible refine wkC ?_ ?_); exact CEq.refl _) | (with_reducible refine wkL ?_) | ((with_reducible fail_if_success first | constructor | show False); conv => whnf)
        refine CallVC.mk' (fun _ => rk) (fun _ => .cons ((mC9 (by rfl))) (.cons ((mC5 (by rfl))) .nil)) ?_
        clear rk
        repeat' first | (with_reducible first | refine wkI ?_ | exact ⟨⟩ | refine wkB (fun _ => ?_) fun _ => ?_ | refine wkT (fun _ => ?_) ?_) | ((with_reducible refine wkC ?_ ?_); exact CEq.refl _) | (with_reducible refine wkL ?_) | ((with_reducible fail_if_success first | constructor | show False); conv => whnf)
        · rename_i z
          rw [decide_eq_true (rfl : e2 = e2)] at z
          cases z
        have S2 := r2.small
        refine CallVC.mk' (fun _ => ref6_ok R s2 r2) (fun _ => .cons ((mC9 (by rfl))) .nil) ?_
        repeat' first | (with_reducible first | refine wkI ?_ | exact ⟨⟩ | refine wkB (fun _ => ?_) fun _ => ?_ | refine wkT (fun _ => ?_) ?_) | ((with_reducible refine wkC ?_ ?_); exact CEq.refl _) | (with_reducible refine wkL ?_) | ((with_reducible fail_if_success first | constructor | show False); conv => whnf)
        refine CallVC.mk' (fun _ => rsame6_ok R s2 r2) (fun _ => .cons ((mC9 (by rfl))) (.cons ((mC9 (by rfl))) .nil)) ?_
        repeat' first | (with_reducible first | refine wkI ?_ | exact ⟨⟩ | refine wkB (fun _ => ?_) fun _ => ?_ | refine wkT (fun _ => ?_) ?_) | ((with_reducible refine wkC ?_ ?_); exact CEq.refl _) | (with_reducible refine wkL ?_) | ((with_reducible fail_if_success first | constructor | show False); conv => whnf)
        refine CallVC.mk' (fun _ => right_ok K s2 S2) (fun _ => .cons ((mC9 (by rfl))) .nil) ?_
        rw [decide_eq_true r2]
        repeat' first | (with_reducible first | refine wkI ?_ | exact ⟨⟩ | refine wkB (fun _ => ?_) fun _ => ?_ | refine wkT (fun _ => ?_) ?_) | ((with_reducible refine wkC ?_ ?_); exact CEq.refl _) | (with_reducible refine wkL ?_) | ((with_reducible fail_if_success first | constructor | show False); conv => whnf)
        · rename_i z
          exact absurd z (by decide)
        refine LoopEnd.mk ⟨(s2, i + 1), ⟨g, r2⟩, by show acts.length - (i + 1) < acts.length - i; omega, ?_⟩
        clear hQ
        (refine Le.of ?_ ?_ <;> repeat' first | exact trivial | exact CEq.refl _ | exact rfl | exact cI (by push_cast; first | rfl | omega) | exact SubE.dat fun _ _ _ _ => CEq.refl _ | refine SubE.varN ?_ | refine Exists.intro _ (And.intro rfl ?_) | refine And.intro ?_ ?_)
      · refine CallVC.mk' (fun _ => pump_ok K s S) (fun _ => .cons ((mC9 (by rfl))) .nil) ?_
        have r2 := pump_right r
        have rk := rpump_ok R s r
        generalize pumpS s = s2 at *
        repeat' first | (with_reducible first | refine wkI ?_ | exact ⟨⟩ | refine wkB (fun _ => ?_) fun _ => ?_ | refine wkT (fun _ => ?_) ?_) | ((with_reducible refine wkC ?_ ?_); exact CEq.refl _) | (with_reducible refine wkL ?_) | ((with_reducible fail_if_success first | constructor | show False); conv => whnf)
        refine CallVC.mk' (fun _ => rk) (fun _ => .cons ((mC9 (by rfl))) .nil) ?_
        clear rk
        repeat' first | (with_reducible first | refine wkI ?_ | exact ⟨⟩ | refine wkB (fun _ => ?_) fun _ => ?_ | refine wkT (fun _ => ?_) ?_) | ((with_reducible refine wkC ?_ ?_); exact CEq.refl _) | (with_reducible refine wkL ?_) | ((with_reducible fail_if_success first | constructor | show False); conv => whnf)
        have S2 := r2.small
        refine CallVC.mk' (fun _ => ref6_ok R s2 r2) (fun _ => .cons ((mC9 (by rfl))) .nil) ?_
        repeat' first | (with_reducible first | refine wkI ?_ | exact ⟨⟩ | refine wkB (fun _ => ?_) fun _ => ?_ | refine wkT (fun _ => ?_) ?_) | ((with_reducible refine wkC ?_ ?_); exact CEq.refl _) | (with_reducible refine wkL ?_) | ((with_reducible fail_if_success first | constructor | show False); conv => whnf)
        refine CallVC.mk' (fun _ => rsame6_ok R s2 r2) (fun _ => .cons ((mC9 (by rfl))) (.cons ((mC9 (by rfl))) .nil)) ?_
        repeat' first | (with_reducible first | refine wkI ?_ | exact ⟨⟩ | refine wkB (fun _ => ?_) fun _ => ?_ | refine wkT (fun _ => ?_) ?_) | ((with_reducible refine wkC ?_ ?_); exact CEq.refl _) | (with_reducible refine wkL ?_) | ((with_reducible fail_if_success first | constructor | show False); conv => whnf)
        refine CallVC.mk' (fun _ => right_ok K s2 S2) (fun _ => .cons ((mC9 (by rfl))) .nil) ?_
        rw [decide_eq_true r2]
        repeat' first | (with_reducible first | refine wkI ?_ | exact ⟨⟩ | refine wkB (fun _ => ?_) fun _ => ?_ | refine wkT (fun _ => ?_) ?_) | ((with_reducible refine wkC ?_ ?_); exact CEq.refl _) | (with_reducible refine wkL ?_) | ((with_reducible fail_if_success first | constructor | show False); conv => whnf)
        · rename_i z
          exact absurd z (by decide)
        refine LoopEnd.mk ⟨(s2, i + 1), ⟨g, r2⟩, by show acts.length - (i + 1) < acts.length - i; omega, ?_⟩
        clear hQ
        (refine Le.of ?_ ?_ <;> repeat' first | exact trivial | exact CEq.refl _ | exact rfl | exact cI (by push_cast; first | rfl | omega) | exact SubE.dat fun _ _ _ _ => CEq.refl _ | refine SubE.varN ?_ | refine Exists.intro _ (And.intro rfl ?_) | refine And.intro ?_ ?_)
      · rw [Int.toNat_natCast]
        generalize acts.getD i default = x at *
        refine CallVC.mk' (fun _ => done_ok K s x.n (decide (x.kind = 3)) S) (fun _ => .cons ((mC9 (by rfl))) (.cons (.one (CEq.refl _)) (.cons (.one (CEq.refl _)) .nil))) ?_
        have r2 := done_right (i := x.n) (f := decide (x.kind = 3)) r
        have rk := rdone_ok R s x.n (decide (x.kind = 3)) r
        generalize doneS s x.n (decide (x.kind = 3)) = y at *
        obtain ⟨s2, j2, e2, b2⟩ := y
        dsimp only at r2
        repeat' first | (with_reducible first | refine wkI ?_ | exact ⟨⟩ | refine wkB (fun _ => ?_) fun _ => ?_ | refine wkT (fun _ => ?_) ?_) | ((with_reducible refine wkC ?_ ?_); exact CEq.refl _) | (with_reducible refine wkL ?_) | ((with_reducible fail_if_success first | constructor | show False); conv => whnf)
        refine CallVC.mk' (fun _ => rk) (fun _ => .cons ((mC9 (by rfl))) (.cons (.one (CEq.refl _)) (.cons (.one (CEq.refl _)) .nil))) ?_
        clear rk
        repeat' first | (with_reducible first | refine wkI ?_ | exact ⟨⟩ | refine wkB (fun _ => ?_) fun _ => ?_ | refine wkT (fun _ => ?_) ?_) | ((with_reducible refine wkC ?_ ?_); exact CEq.refl _) | (with_reducible refine wkL ?_) | ((with_reducible fail_if_success first | constructor | show False); conv => whnf)
        · rename_i z
          exfalso
          clear hQ
          simp at z
        have S2 := r2.small
        refine CallVC.mk' (fun _ => ref6_ok R s2 r2) (fun _ => .cons ((mC9 (by rfl))) .nil) ?_
        repeat' first | (with_reducible first | refine wkI ?_ | exact ⟨⟩ | refine wkB (fun _ => ?_) fun _ => ?_ | refine wkT (fun _ => ?_) ?_) | ((with_reducible refine wkC ?_ ?_); exact CEq.refl _) | (with_reducible refine wkL ?_) | ((with_reducible fail_if_success first | constructor | show False); conv => whnf)
        refine CallVC.mk' (fun _ => rsame6_ok R s2 r2) (fun _ => .cons ((mC9 (by rfl))) (.cons ((mC9 (by rfl))) .nil)) ?_
        repeat' first | (with_reducible first | refine wkI ?_ | exact ⟨⟩ | refine wkB (fun _ => ?_) fun _ => ?_ | refine wkT (fun _ => ?_) ?_) | ((with_reducible refine wkC ?_ ?_); exact CEq.refl _) | (with_reducible refine wkL ?_) | ((with_reducible fail_if_success first | constructor | show False); conv => whnf)
        refine CallVC.mk' (fun _ => right_ok K s2 S2) (fun _ => .cons ((mC9 (by rfl))) .nil) ?_
        rw [decide_eq_true r2]
        repeat' first | (with_reducible first | refine wkI ?_ | exact ⟨⟩ | refine wkB (fun _ => ?_) fun _ => ?_ | refine wkT (fun _ => ?_) ?_) | ((with_reducible refine wkC ?_ ?_); exact CEq.refl _) | (with_reducible refine wkL ?_) | ((with_reducible fail_if_success first | constructor | show False); conv => whnf)
        · rename_i z
          exact absurd z (by decide)
        refine LoopEnd.mk ⟨(s2, i + 1), ⟨g, r2⟩, by show acts.length - (i + 1) < acts.length - i; omega, ?_⟩
        clear hQ
        (refine Le.of ?_ ?_ <;> repeat' first | exact trivial | exact CEq.refl _ | exact rfl | exact cI (by push_cast; first | rfl | omega) | exact SubE.dat fun _ _ _ _ => CEq.refl _ | refine SubE.varN ?_ | refine Exists.intro _ (And.intro rfl ?_) | refine And.intro ?_ ?_)
      · rename_i z1 z2 z3 z4 z5
        exact absurd (z3.symm.trans z4) (by decide)
      · rename_i z1 z2 z3 z4 z5
        exact absurd (z3.symm.trans z4) (by decide)
      · rw [Int.toNat_natCast]
        generalize acts.getD i default = x at *
        refine CallVC.mk' (fun _ => done_ok K s x.n (decide (x.kind = 3)) S) (fun _ => .cons ((mC9 (by rfl))) (.cons (.one (CEq.refl _)) (.cons (.one (CEq.refl _)) .nil))) ?_
        have r2 := done_right (i := x.n) (f := decide (x.kind = 3)) r
        have rk := rdone_ok R s x.n (decide (x.kind = 3)) r
        generalize doneS s x.n (decide (x.kind = 3)) = y at *
        obtain ⟨s2, j2, e2, b2⟩ := y
        dsimp only at r2
        repeat' first | (with_reducible first | refine wkI ?_ | exact ⟨⟩ | refine wkB (fun _ => ?_) fun _ => ?_ | refine wkT (fun _ => ?_) ?_) | ((with_reducible refine wkC ?_ ?_); exact CEq.refl _) | (with_reducible refine wkL ?_) | ((with_reducible fail_if_success first | constructor | show False); conv => whnf)
        refine CallVC.mk' (fun _ => rk) (fun _ => .cons ((mC9 (by rfl))) (.cons (.one (CEq.refl _)) (.cons (.one (CEq.refl _)) .nil))) ?_
        clear rk
        repeat' first | (with_reducible first | refine wkI ?_ | exact ⟨⟩ | refine wkB (fun _ => ?_) fun _ => ?_ | refine wkT (fun _ => ?_) ?_) | ((with_reducible refine wkC ?_ ?_); exact CEq.refl _) | (with_reducible refine wkL ?_) | ((with_reducible fail_if_success first | constructor | show False); conv => whnf)
        · rename_i z
          exfalso
          clear hQ
          simp at z
        have S2 := r2.small
        refine CallVC.mk' (fun _ => ref6_ok R s2 r2) (fun _ => .cons ((mC9 (by rfl))) .nil) ?_
        repeat' first | (with_reducible first | refine wkI ?_ | exact ⟨⟩ | refine wkB (fun _ => ?_) fun _ => ?_ | refine wkT (fun _ => ?_) ?_) | ((with_reducible refine wkC ?_ ?_); exact CEq.refl _) | (with_reducible refine wkL ?_) | ((with_reducible fail_if_success first | constructor | show False); conv => whnf)
        refine CallVC.mk' (fun _ => rsame6_ok R s2 r2) (fun _ => .cons ((mC9 (by rfl))) (.cons ((mC9 (by rfl))) .nil)) ?_
        repeat' first | (with_reducible first | refine wkI ?_ | exact ⟨⟩ | refine wkB (fun _ => ?_) fun _ => ?_ | refine wkT (fun _ => ?_) ?_) | ((with_reducible refine wkC ?_ ?_); exact CEq.refl _) | (with_reducible refine wkL ?_) | ((with_reducible fail_if_success first | constructor | show False); conv => whnf)
        refine CallVC.mk' (fun _ => right_ok K s2 S2) (fun _ => .cons ((mC9 (by rfl))) .nil) ?_
        rw [decide_eq_true r2]
        repeat' first | (with_reducible first | refine wkI ?_ | exact ⟨⟩ | refine wkB (fun _ => ?_) fun _ => ?_ | refine wkT (fun _ => ?_) ?_) | ((with_reducible refine wkC ?_ ?_); exact CEq.refl _) | (with_reducible refine wkL ?_) | ((with_reducible fail_if_success first | constructor | show False); conv => whnf)
        · rename_i z
          exact absurd z (by decide)
        refine LoopEnd.mk ⟨(s2, i + 1), ⟨g, r2⟩, by show acts.length - (i + 1) < acts.length - i; omega, ?_⟩
        clear hQ
        (refine Le.of ?_ ?_ <;> repeat' first | exact trivial | exact CEq.refl _ | exact rfl | exact cI (by push_cast; first | rfl | omega) | exact SubE.dat fun _ _ _ _ => CEq.refl _ | refine SubE.varN ?_ | refine Exists.intro _ (And.intro rfl ?_) | refine And.intro ?_ ?_)
      · rw [Int.toNat_natCast]
        generalize acts.getD i default = x at *
        obtain ⟨m, hm, hm2⟩ : ∃ m : Nat, (bif false then max (bif true then max x.n 0 else min x.n 0) 200 else min (bif true then max x.n 0 else min x.n 0) 200) = (m : Int) ∧ m ≤ 200 := ⟨(min (max x.n 0) 200).toNat, by show min (max x.n 0) 200 = _; omega, by omega⟩
        rw [hm]
        clear hm
        have hkl : (kpN m).length = m := by unfold kpN; simp
        have hkg : ∀ r, r < m → (kpN m).getD r default = (r : Int) := fun r hr => by rw [getD_eq (by omega)]; unfold kpN; simp
        refine LoopVC.inv (X := Option Nat) (fun x => ∀ k, x = some k → k < m) (fun x => match x with
          | some k => stL [(5, .va 5 0 0), (10, .va 10 0 0), (25, .os 178 0 1 0 k), (83, .c (slL 7 acE acts)), (84, .c (.int .i64 acts.length)), (85, .c (.int .i64 i)), (171, .c (.int .i64 m)), (172, .c (.int .i64 k))]
              [(5, sV s), (10, sV s), (178, ⟨1, k, .dat fun r j => intE ((kpN m).getD r default) j, false, true⟩)]
          | none => stL [(5, .va 5 0 0), (10, .va 10 0 0), (25, .c (slL 1 intE (kpN m))), (83, .c (slL 7 acE acts)), (84, .c (.int .i64 acts.length)), (85, .c (.int .i64 i)), (171, .c (.int .i64 m)), (172, .c (.int .i64 m))]
              [(5, sV s), (10, sV s)]) (fun x => match x with | some k => m - k | none => 0) (if m = 0 then none else some 0) (fun k hk => by
                by_cases e : m = 0
                · rw [if_pos e] at hk; cases hk
                · rw [if_neg e] at hk; cases hk; omega) ?_ ?_
        · clear hQ
          by_cases e : m = 0
          · rw [if_pos e]
            have hz : kpN m = [] := List.eq_nil_of_length_eq_zero (by omega)
            rw [hz]
            subst e
            (refine Le.of ?_ ?_ <;> repeat' first | exact trivial | exact CEq.refl _ | exact rfl | exact cI (by push_cast; first | rfl | omega) | exact SubE.dat fun _ _ _ _ => CEq.refl _ | refine SubE.varN ?_ | refine Exists.intro _ (And.intro rfl ?_) | refine And.intro ?_ ?_)
          · rw [if_neg e]
            (refine Le.ofN [178] ?_ ?_ <;> repeat' first | exact trivial | exact SubF.inr ⟨_, _, _, rfl, rfl, rfl⟩ | exact SubF.inl (cI (by push_cast; first | rfl | omega)) | exact SubF.inl (CEq.refl _) | exact SubF.inl rfl | exact SubF.inl trivial | exact SubF.inl ⟨rfl, rfl, rfl⟩ | exact SubF.inl ⟨rfl, rfl, rfl, rfl, rfl⟩ | exact Or.inl ⟨rfl, rfl⟩ | refine Or.inr ⟨rfl, _, rfl, ?_⟩ | refine SubEF.var2 ?_ ?_ | refine SubEF.var1 ?_ | refine SubEF.var3 ?_ ?_ ?_ | refine SubEF.varN ?_ | refine SubEF.var4 ?_ ?_ ?_ ?_ | exact SubEF.of (SubE.dat fun _ _ _ _ => CEq.refl _) | refine And.intro ?_ ?_ | refine SubF.frz rfl rfl rfl rfl (Nat.le_of_eq (Nat.zero_add _)) rfl rfl ?_)
        rintro Q2 hQ2 (_ | k) hk
        · clear hk
          repeat' first | (with_reducible first | refine wkI ?_ | exact ⟨⟩ | refine wkB (fun _ => ?_) fun _ => ?_ | refine wkT (fun _ => ?_) ?_) | ((with_reducible refine wkC ?_ ?_); exact CEq.refl _) | (with_reducible refine wkL ?_) | ((with_reducible fail_if_success first | constructor | show False); conv => whnf)
          · rename_i g2
            have := of_decide_eq_true g2
            omega
          refine Out.mk (hQ2 _ _ ?_)
          clear hQ2 Q2
          repeat' first | (with_reducible first | refine wkI ?_ | exact ⟨⟩ | refine wkB (fun _ => ?_) fun _ => ?_ | refine wkT (fun _ => ?_) ?_) | ((with_reducible refine wkC ?_ ?_); exact CEq.refl _) | (with_reducible refine wkL ?_) | ((with_reducible fail_if_success first | constructor | show False); conv => whnf)
          refine CallVC.mk' (fun _ => crashS_ok K s (kpN m) S (by omega)) (fun _ => .cons ((mC9 (by rfl))) (.cons (.one (CEq.refl _)) .nil)) ?_
          have r2 := crashS_right (keep := kpN m) r
          have rk := rcrash6_ok R s (kpN m) r (by omega)
          generalize crashS s (kpN m) = s2 at *
          repeat' first | (with_reducible first | refine wkI ?_ | exact ⟨⟩ | refine wkB (fun _ => ?_) fun _ => ?_ | refine wkT (fun _ => ?_) ?_) | ((with_reducible refine wkC ?_ ?_); exact CEq.refl _) | (with_reducible refine wkL ?_) | ((with_reducible fail_if_success first | constructor | show False); conv => whnf)
          refine CallVC.mk' (fun _ => rk) (fun _ => .cons ((mC9 (by rfl))) (.cons (.one (CEq.refl _)) .nil)) ?_
          clear rk
          repeat' first | (with_reducible first | refine wkI ?_ | exact ⟨⟩ | refine wkB (fun _ => ?_) fun _ => ?_ | refine wkT (fun _ => ?_) ?_) | ((with_reducible refine wkC ?_ ?_); exact CEq.refl _) | (with_reducible refine wkL ?_) | ((with_reducible fail_if_success first | constructor | show False); conv => whnf)
          have S2 := r2.small
          refine CallVC.mk' (fun _ => ref6_ok R s2 r2) (fun _ => .cons ((mC9 (by rfl))) .nil) ?_
          repeat' first | (with_reducible first | refine wkI ?_ | exact ⟨⟩ | refine wkB (fun _ => ?_) fun _ => ?_ | refine wkT (fun _ => ?_) ?_) | ((with_reducible refine wkC ?_ ?_); exact CEq.refl _) | (with_reducible refine wkL ?_) | ((with_reducible fail_if_success first | constructor | show False); conv => whnf)
          refine CallVC.mk' (fun _ => rsame6_ok R s2 r2) (fun _ => .cons ((mC9 (by rfl))) (.cons ((mC9 (by rfl))) .nil)) ?_
          repeat' first | (with_reducible first | refine wkI ?_ | exact ⟨⟩ | refine wkB (fun _ => ?_) fun _ => ?_ | refine wkT (fun _ => ?_) ?_) | ((with_reducible refine wkC ?_ ?_); exact CEq.refl _) | (with_reducible refine wkL ?_) | ((with_reducible fail_if_success first | constructor | show False); conv => whnf)
          refine CallVC.mk' (fun _ => right_ok K s2 S2) (fun _ => .cons ((mC9 (by rfl))) .nil) ?_
          rw [decide_eq_true r2]
          repeat' first | (with_reducible first | refine wkI ?_ | exact ⟨⟩ | refine wkB (fun _ => ?_) fun _ => ?_ | refine wkT (fun _ => ?_) ?_) | ((with_reducible refine wkC ?_ ?_); exact CEq.refl _) | (with_reducible refine wkL ?_) | ((with_reducible fail_if_success first | constructor | show False); conv => whnf)
          · rename_i z
            exact absurd z (by decide)
          refine LoopEnd.mk ⟨(s2, i + 1), ⟨g, r2⟩, by show acts.length - (i + 1) < acts.length - i; omega, ?_⟩
          clear hQ
          (refine Le.of ?_ ?_ <;> repeat' first | exact trivial | exact CEq.refl _ | exact rfl | exact cI (by push_cast; first | rfl | omega) | exact SubE.dat fun _ _ _ _ => CEq.refl _ | refine SubE.varN ?_ | refine Exists.intro _ (And.intro rfl ?_) | refine And.intro ?_ ?_)
        · have hk := hk k rfl
          repeat' first | (with_reducible first | refine wkI ?_ | exact ⟨⟩ | refine wkB (fun _ => ?_) fun _ => ?_ | refine wkT (fun _ => ?_) ?_) | ((with_reducible refine wkC ?_ ?_); exact CEq.refl _) | (with_reducible refine wkL ?_) | ((with_reducible fail_if_success first | constructor | show False); conv => whnf)
          · rename_i g2
            have g2 : k < m := by have := of_decide_eq_true g2; omega
            repeat' first | (with_reducible first | refine wkI ?_ | exact ⟨⟩ | refine wkB (fun _ => ?_) fun _ => ?_ | refine wkT (fun _ => ?_) ?_) | ((with_reducible refine wkC ?_ ?_); exact CEq.refl _) | (with_reducible refine wkL ?_) | ((with_reducible fail_if_success first | constructor | show False); conv => whnf)
            clear hQ
            have hrow : ∀ r, r < k + 1 → ∀ j, j < 1 → CEq (appC (fun r j => intE ((kpN m).getD r default) j) k (fun _ _ => .int .i64 (k : Int)) r j) (intE ((kpN m).getD r default) j) := app_row (enc := intE) (L := kpN m) fun j hj => by rw [hkg k g2]; exact CEq.refl _
            by_cases e : k + 1 = m
            · refine LoopEnd.mk ⟨none, (fun k hk => by cases hk), by show 0 < m - k; omega, ?_⟩
              refine Le.trans (s2 := stL [(5, .va 5 0 0), (10, .va 10 0 0), (25, .os 178 0 1 0 m), (83, .c (slL 7 acE acts)), (84, .c (.int .i64 acts.length)), (85, .c (.int .i64 i)), (171, .c (.int .i64 m)), (172, .c (.int .i64 m))]
                [(5, sV s), (10, sV s), (178, ⟨1, m, .dat fun r j => intE ((kpN m).getD r default) j, true, true⟩)]) ?_ ?_
              · clear hQ2
                (refine Le.of ?_ ?_ <;> repeat' first | exact trivial | exact CEq.refl _ | exact rfl | exact cI (by push_cast; first | rfl | omega) | exact SubE.dat fun _ _ _ _ => CEq.refl _ | refine SubE.varN ?_ | refine Exists.intro _ (And.intro rfl ?_) | refine And.intro ?_ ?_)
                · exact e
                · exact ⟨rfl, e, fun _ => rfl, id, fun r hr j hj => by
                    have hj : j < 1 := hj
                    obtain rfl : j = 0 := by omega
                    have hr : r < k + 1 := hr
                    show CEq (appC _ k _ r 0) (intE ((kpN m).getD r default) 0)
                    rw [appC_at]
                    by_cases e2 : k ≤ r
                    · obtain rfl : r = k := by omega
                      rw [if_pos e2, Nat.sub_self, hkg r g2]
                      exact CEq.refl _
                    · rw [if_neg e2]
                      exact CEq.refl _⟩
              · clear hQ2
                (refine Le.ofN [] ?_ ?_ <;> repeat' first | exact trivial | exact SubF.inr ⟨_, _, _, rfl, rfl, rfl⟩ | exact SubF.inl (cI (by push_cast; first | rfl | omega)) | exact SubF.inl (CEq.refl _) | exact SubF.inl rfl | exact SubF.inl trivial | exact SubF.inl ⟨rfl, rfl, rfl⟩ | exact SubF.inl ⟨rfl, rfl, rfl, rfl, rfl⟩ | exact Or.inl ⟨rfl, rfl⟩ | refine Or.inr ⟨rfl, _, rfl, ?_⟩ | refine SubEF.var2 ?_ ?_ | refine SubEF.var1 ?_ | refine SubEF.var3 ?_ ?_ ?_ | refine SubEF.varN ?_ | refine SubEF.var4 ?_ ?_ ?_ ?_ | exact SubEF.of (SubE.dat fun _ _ _ _ => CEq.refl _) | refine And.intro ?_ ?_ | refine SubF.frz rfl rfl rfl rfl (Nat.le_of_eq (Nat.zero_add _)) rfl rfl ?_)
                exact IsL.ceq (l := kpN m) IsL.refl.off hkl.symm
            · refine LoopEnd.mk ⟨some (k + 1), (fun j hj => by cases hj; omega), by show m - (k + 1) < m - k; omega, ?_⟩
              clear hQ2
              (refine Le.of ?_ ?_ <;> repeat' first | exact trivial | exact CEq.refl _ | exact rfl | exact cI (by push_cast; first | rfl | omega) | exact SubE.dat fun _ _ _ _ => CEq.refl _ | refine SubE.varN ?_ | refine Exists.intro _ (And.intro rfl ?_) | refine And.intro ?_ ?_)
              refine SubE.dat (app_row (enc := intE) (L := kpN m) fun j hj => ?_)
              rw [hkg k g2]
              have hj : j < 1 := hj
              obtain rfl : j = 0 := by omega
              exact CEq.refl _
          · rename_i g2
            have := of_decide_eq_false g2
            omega
      · have r2 := r
        generalize hss : s = s2 at *
        have S2 := r2.small
        refine CallVC.mk' (fun _ => ref6_ok R s2 r2) (fun _ => .cons ((mC9 (by rfl))) .nil) ?_
        repeat' first | (with_reducible first | refine wkI ?_ | exact ⟨⟩ | refine wkB (fun _ => ?_) fun _ => ?_ | refine wkT (fun _ => ?_) ?_) | ((with_reducible refine wkC ?_ ?_); exact CEq.refl _) | (with_reducible refine wkL ?_) | ((with_reducible fail_if_success first | constructor | show False); conv => whnf)
        refine CallVC.mk' (fun _ => rsame6_ok R s2 r2) (fun _ => .cons ((mC9 (by rfl))) (.cons ((mC9 (by rfl))) .nil)) ?_
        repeat' first | (with_reducible first | refine wkI ?_ | exact ⟨⟩ | refine wkB (fun _ => ?_) fun _ => ?_ | refine wkT (fun _ => ?_) ?_) | ((with_reducible refine wkC ?_ ?_); exact CEq.refl _) | (with_reducible refine wkL ?_) | ((with_reducible fail_if_success first | constructor | show False); conv => whnf)
        refine CallVC.mk' (fun _ => right_ok K s2 S2) (fun _ => .cons ((mC9 (by rfl))) .nil) ?_
        rw [decide_eq_true r2]
        repeat' first | (with_reducible first | refine wkI ?_ | exact ⟨⟩ | refine wkB (fun _ => ?_) fun _ => ?_ | refine wkT (fun _ => ?_) ?_) | ((with_reducible refine wkC ?_ ?_); exact CEq.refl _) | (with_reducible refine wkL ?_) | ((with_reducible fail_if_success first | constructor | show False); conv => whnf)
        · rename_i z
          exact absurd z (by decide)
        refine LoopEnd.mk ⟨(s2, i + 1), ⟨g, r2⟩, by show acts.length - (i + 1) < acts.length - i; omega, ?_⟩
        clear hQ
        (refine Le.of ?_ ?_ <;> repeat' first | exact trivial | exact CEq.refl _ | exact rfl | exact cI (by push_cast; first | rfl | omega) | exact SubE.dat fun _ _ _ _ => CEq.refl _ | refine SubE.varN ?_ | refine Exists.intro _ (And.intro rfl ?_) | refine And.intro ?_ ?_)
    · refine Out.mk (hQ _ _ ?_)
      clear hQ
      repeat' first | (with_reducible first | refine wkI ?_ | exact ⟨⟩ | refine wkB (fun _ => ?_) fun _ => ?_ | refine wkT (fun _ => ?_) ?_) | ((with_reducible refine wkC ?_ ?_); exact CEq.refl _) | (with_reducible refine wkL ?_) | ((with_reducible fail_if_success first | constructor | show False); conv => whnf)
      refine CallVC.mk' (fun _ => awake_ok L) (fun _ => .nil) ?_
      repeat' first | (with_reducible first | refine wkI ?_ | exact ⟨⟩ | refine wkB (fun _ => ?_) fun _ => ?_ | refine wkT (fun _ => ?_) ?_) | ((with_reducible refine wkC ?_ ?_); exact CEq.refl _) | (with_reducible refine wkL ?_) | ((with_reducible fail_if_success first | constructor | show False); conv => whnf)
  · have hok : ¬ S05.newOk weights := fun x => hr (hrn.2 x)
    have he : S05.newE weights = 1 := if_neg hok
    rw [he, if_pos (by decide)] at hns
    obtain ⟨rfl, rfl⟩ := Prod.mk.inj hns
    rw [decide_eq_false hr]
    repeat' first | (with_reducible first | refine wkI ?_ | exact ⟨⟩ | refine wkB (fun _ => ?_) fun _ => ?_ | refine wkT (fun _ => ?_) ?_) | ((with_reducible refine wkC ?_ ?_); exact CEq.refl _) | (with_reducible refine wkL ?_) | ((with_reducible fail_if_success first | constructor | show False); conv => whnf)
    · refine CallVC.mk' (fun _ => awake_ok L) (fun _ => .nil) ?_
      repeat' first | (with_reducible first | refine wkI ?_ | exact ⟨⟩ | refine wkB (fun _ => ?_) fun _ => ?_ | refine wkT (fun _ => ?_) ?_) | ((with_reducible refine wkC ?_ ?_); exact CEq.refl _) | (with_reducible refine wkL ?_) | ((with_reducible fail_if_success first | constructor | show False); conv => whnf)
    · rename_i z
      cases z
end
end Lk.S06
