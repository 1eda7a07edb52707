/-
  Gs05c: what these chapters need.
-/
import Derived.Test.YtegfifeichfclaaGs05b
set_option linter.unusedSimpArgs false
set_option linter.unusedVariables false
namespace Lk.S05
open Go Lk Lk.C
/-- What was served since. -/
structure Since (w S0 S D : List Int) (m : Nat) : Prop where
  n : D.length = w.length
  e : ∀ i, i < w.length → D.getD i default + S0.getD i default = S.getD i default
  b : ∀ i, i < w.length → 0 ≤ D.getD i default ∧ D.getD i default ≤ 8 * m
theorem Since.step {w S0 S D : List Int} {m p : Nat} {c : Int} (h : Since w S0 S D m) (hs : S.length = w.length) (hc : 1 ≤ c ∧ c ≤ 8) : Since w S0 (S.set p (S.getD p default + c)) (D.set p (D.getD p default + c)) (m + 1) := by
  have hs1 : ∀ i, i < w.length → (S.set p (S.getD p default + c)).getD i default = if i = p then S.getD p default + c else S.getD i default := fun i hi => setL_getD (by rw [hs]; exact hi)
  have hs2 : ∀ i, i < w.length → (D.set p (D.getD p default + c)).getD i default = if i = p then D.getD p default + c else D.getD i default := fun i hi => setL_getD (by rw [h.n]; exact hi)
  refine ⟨by rw [List.length_set]; exact h.n, fun i hi => ?_, fun i hi => ?_⟩
  · rw [hs1 i hi, hs2 i hi]
    have := h.e i hi
    by_cases e : i = p
    · rw [if_pos e, if_pos e]; subst e; omega
    · rw [if_neg e, if_neg e]; exact this
  · rw [hs2 i hi]
    have := h.b i hi
    by_cases e : i = p
    · rw [if_pos e]; rw [e] at this; omega
    · rw [if_neg e]; omega
section
variable {P : Program} {F : Nat → Nat}
end
end Lk.S05
namespace Lk.S05
open Go Lk Lk.C
/-- Only one lane holds work. -/
structure AL (n k : Nat) (cs : List Int) (l : Ls) : Prop where
  r : right l
  nn : l.list.length = n
  kk : k < n
  cc : ∀ i, i < n → (l.list.getD i default).costs = if i = k then cs else []
variable {n k : Nat} {cs : List Int} {l : Ls}
theorem AL.waits (h : AL n k cs l) : waits l ↔ cs ≠ [] := by
  rw [← waits_fst, fstN_lt_iff]
  constructor
  · rintro ⟨i, hi, hb⟩ rfl
    have hb := of_decide_eq_true hb
    rw [h.cc i (by rw [← h.nn]; exact hi)] at hb
    split at hb <;> simp at hb
  · intro hc
    refine ⟨k, by rw [h.nn]; exact h.kk, decide_eq_true ?_⟩
    rw [h.cc k h.kk, if_pos rfl]
    exact List.length_pos_iff.2 hc
theorem AL.next (h : AL n k cs l) (hc : cs ≠ []) : nextOk l ∧ AL n k (cs.drop 1) (nextL l) ∧ nextA l = (k : Int) ∧ nextC l = cs.getD 0 default := by
  have hok : nextOk l := ⟨h.r, h.waits.2 hc⟩
  have := nx_ind (fun l => AL n k cs l) (fun l' c => AL n k (cs.drop 1) l' ∧ l'.at_ = (k : Int) ∧ c = cs.getD 0 default) (fun l m hr hw hJ ht => by
    have hm := (turn_none hr hw ht).1
    have ha : ∃ d, m = adv l d := by
      unfold turn at ht
      split at ht
      · exact ⟨_, (congrArg Prod.fst ht).symm⟩
      · split at ht
        · exact ⟨_, (congrArg Prod.fst ht).symm⟩
        · cases congrArg Prod.snd ht
    obtain ⟨d, rfl⟩ := ha
    refine ⟨hm, by rw [adv_len]; exact hJ.nn, hJ.kk, fun i hi => ?_⟩
    rw [adv_at (by rw [hJ.nn]; exact hi)]
    by_cases e : i = pos l
    · rw [if_pos e, ← hJ.cc i hi, e]; rfl
    · rw [if_neg e]; exact hJ.cc i hi) (fun l hr hJ hn hd => by
    have hp := hr.pos
    have hpn : pos l < n := by rw [← hJ.nn]; exact hp.1
    have hcp := hJ.cc (pos l) hpn
    have hk : pos l = k := Decidable.byContradiction fun x => hn (by show (l.list.getD (pos l) default).costs = []; rw [hcp, if_neg x])
    rw [if_pos hk] at hcp
    have hcu : (cur l).costs = cs := hcp
    refine ⟨⟨srv_right hr hn hd, by rw [srv_len]; exact hJ.nn, hJ.kk, fun i hi => ?_⟩, by rw [← hk]; exact hp.2.symm, by unfold hd0; rw [hcu]⟩
    rw [srv_at (by rw [hJ.nn]; exact hi), hcu]
    by_cases e : i = pos l
    · rw [if_pos e]; show cs.drop 1 = _; rw [if_pos (by omega)]
    · rw [if_neg e, if_neg (by omega), hJ.cc i hi, if_neg (by omega)]) h.r hok.2 h
  have e1 : nextL l = (nx l).1 := if_pos hok
  have e2 : nextC l = (nx l).2 := if_pos hok
  have e3 : nextA l = (nx l).1.at_ := if_pos hok
  rw [e1, e2, e3]
  exact ⟨hok, this.2.1, this.2.2.1, this.2.2.2⟩
theorem AL.push {c : Int} (h : AL n k cs l) (hc : 1 ≤ c ∧ c ≤ 8) (hl : cs.length < 200) : pushE l k c = 0 ∧ AL n k (cs ++ [c]) (pushL l k c) := by
  have hp : pushOk l k c := ⟨h.r, ⟨by omega, by rw [h.nn]; have := h.kk; omega⟩, hc.1, hc.2⟩
  have hck := h.cc k h.kk
  rw [if_pos rfl] at hck
  have he : pushE l k c = 0 := by
    unfold pushE; rw [if_pos hp, Int.toNat_natCast, hck, if_neg (by omega)]
  refine ⟨he, ?_⟩
  have e : pushL l k c = pushX l k c := by unfold pushL; rw [if_pos he, Int.toNat_natCast]
  rw [e]
  have hlen : (pushX l k c).list.length = l.list.length := List.length_set ..
  have hat : ∀ i, i < n → (pushX l k c).list.getD i default = if i = k then ⟨(l.list.getD k default).weight, (l.list.getD k default).deficit, (l.list.getD k default).costs ++ [c]⟩ else l.list.getD i default := fun i hi => setL_getD (by rw [h.nn]; exact hi)
  refine ⟨⟨by rw [hlen]; exact h.r.1, by rw [hlen]; exact h.r.2.1, fun i hi => ?_⟩, by rw [hlen]; exact h.nn, h.kk, fun i hi => ?_⟩
  · rw [hlen] at hi
    have hr := h.r.2.2 i hi
    have hm : mst (pushX l k c) i = mst l i := rfl
    rw [hm, hat i (by rw [← h.nn]; exact hi)]
    by_cases e : i = k
    · subst e
      rw [if_pos rfl]
      refine ⟨hr.1, hr.2.1, ?_, fun x hx => ?_⟩
      · show ((l.list.getD i default).costs ++ [c]).length ≤ 200
        rw [hck]; simp; omega
      · rcases List.mem_append.1 hx with hx | hx
        · exact hr.2.2.2 x hx
        · rw [List.mem_singleton.1 hx]; exact hc
    · rw [if_neg e]; exact hr
  · rw [hat i hi]
    by_cases e : i = k
    · rw [if_pos e, if_pos e, hck]
    · rw [if_neg e, if_neg e, h.cc i hi, if_neg e]
theorem AL.start {w : List Int} (hw : newOk w) (hk : k < w.length) : AL w.length k [] (newL w) := by
  have e := fl_new (costs := []) hw
  rw [e]
  refine ⟨fl_right hw (by omega), fl_len, hk, fun i hi => ?_⟩
  rw [fl_at hi]; unfold flL
  rw [if_neg (Nat.not_lt_zero i)]
  split <;> split <;> rfl
theorem wt_bd {b : UInt8} : 1 ≤ wt b ∧ wt b ≤ 8 := by unfold wt; omega
section
variable {P : Program} {F : Nat → Nat}
set_option maxHeartbeats 8000000 in
set_option maxRecDepth 100000 in
theorem lanesAlone_law (K : K05 P F) (hk : law05_LanesAlone_k P F) (weights : List UInt8) (lane : UInt8) (costs : List UInt8) (h1 : weights.length ≤ 9223372036854775807) (h2 : costs.length ≤ 9223372036854775807) :
    FnOk P (F 90) [.one (slL 1 EU8.enc weights), .one (.int .u8 lane.toNat), .one (slL 1 EU8.enc costs)] [.one (.im (.bool true))] := by
  refine fnOk K.k.m hk ?_
  repeat' first
    | (with_reducible first | refine NeedI.mk (fun h => h) ?_ | refine NeedI.mk (fun h => h.2) ?_ | refine NeedI.mk (fun h => h.1) ?_ | exact Done.mk | refine Both.mk (fun _ => ?_) (fun _ => ?_) | refine Both2.mk (fun _ => ?_) ?_ | refine Need.mk (by first | omega | with_reducible exact CEq.refl _ | (dsimp only; omega) | (dsimp only [rng]; omega) | (simp only [decide_eq_true_eq, decide_eq_false_iff_not, Bool.or_eq_true, Bool.and_eq_true, Bool.or_eq_false_iff, Int.toNat_natCast, addN_eq, cond_false, cond_true, rng] at *; omega) | exact ⟨rfl, rfl⟩) ?_)
    | ((with_reducible refine Need.mk ?_ ?_); exact CEq.refl _)
    | ((with_reducible fail_if_success first | refine LoopVC.mk ?_ | refine Need.mk ?_ ?_ | refine CallVC.mk ?_ | refine LoopEnd.mk ?_ | refine Out.mk ?_ | show False | refine NeedI.mk ?_ ?_); conv => whnf)
  refine LoopVC.inv (fun i : Nat => i ≤ weights.length ∧ i ≤ 6) (fun i => stL [(0, .c (slL 1 EU8.enc weights)), (1, .c (.int .u8 lane.toNat)), (2, .c (slL 1 EU8.enc costs)), (7, .os 45 0 1 0 i), (8, .c (.int .i64 i))]
    [(45, ⟨1, i, .dat fun r j => intE ((wts weights i).getD r default) j, false, true⟩)]) (fun i => 6 - i) 0 ⟨Nat.zero_le _, by decide⟩ ?_ ?_
  · (refine Le.ofN [45] ?_ ?_ <;> repeat' first | exact trivial | exact SubF.inr ⟨_, _, _, rfl, rfl, rfl⟩ | exact SubF.inl (cI (by push_cast; first | rfl | omega)) | exact SubF.inl (CEq.refl _) | exact SubF.inl rfl | exact SubF.inl trivial | exact SubF.inl ⟨rfl, rfl, rfl⟩ | exact SubF.inl ⟨rfl, rfl, rfl, rfl, rfl⟩ | exact Or.inl ⟨rfl, rfl⟩ | refine Or.inr ⟨rfl, _, rfl, ?_⟩ | refine SubEF.var2 ?_ ?_ | refine SubEF.var1 ?_ | refine SubEF.var3 ?_ ?_ ?_ | refine SubEF.var4 ?_ ?_ ?_ ?_ | exact SubEF.of (SubE.dat fun _ _ _ _ => CEq.refl _) | refine And.intro ?_ ?_ | refine SubF.frz rfl rfl rfl rfl (Nat.le_of_eq (Nat.zero_add _)) rfl rfl ?_)
  rintro Q hQ i ⟨hi, hi6⟩
  repeat' first
    | (with_reducible first | refine NeedI.mk (fun h => h) ?_ | refine NeedI.mk (fun h => h.2) ?_ | refine NeedI.mk (fun h => h.1) ?_ | exact Done.mk | refine Both.mk (fun _ => ?_) (fun _ => ?_) | refine Both2.mk (fun _ => ?_) ?_ | refine Need.mk (by first | omega | with_reducible exact CEq.refl _ | (dsimp only; omega) | (dsimp only [rng]; omega) | (simp only [decide_eq_true_eq, decide_eq_false_iff_not, Bool.or_eq_true, Bool.and_eq_true, Bool.or_eq_false_iff, Int.toNat_natCast, addN_eq, cond_false, cond_true, rng] at *; omega) | exact ⟨rfl, rfl⟩) ?_)
    | ((with_reducible refine Need.mk ?_ ?_); exact CEq.refl _)
    | ((with_reducible fail_if_success first | refine LoopVC.mk ?_ | refine Need.mk ?_ ?_ | refine CallVC.mk ?_ | refine LoopEnd.mk ?_ | refine Out.mk ?_ | show False | refine NeedI.mk ?_ ?_); conv => whnf)
  · rename_i h
    simp only [Bool.and_eq_true, decide_eq_true_eq] at h
    refine LoopEnd.mk ⟨i + 1, ⟨by omega, by omega⟩, by omega, ?_⟩
    have hl := wts_len (weights := weights) (i := i) hi
    have hs := wts_succ (weights := weights) (i := i) (by omega)
    rw [hs]
    generalize hw : wts weights i = w0 at *
    have h5 := (IsL.refl (size := 1) (enc := intE) (l := w0)).app (m := [wt (weights.getD i default)]) rfl (IsL.one (g := fun _ _ => Cell.int .i64 (wt (weights.getD i default))) fun j hj => CEq.refl _)
    (refine Le.of ?_ ?_ <;> repeat' first | exact trivial | exact CEq.refl _ | exact rfl | exact cI (by push_cast; first | rfl | omega) | exact SubE.dat fun _ _ _ _ => CEq.refl _ | refine SubE.var2 ?_ ?_ | refine SubE.var1 ?_ | refine SubE.var3 ?_ ?_ ?_ | refine SubE.var4 ?_ ?_ ?_ ?_ | refine SubE.var5 ?_ ?_ ?_ ?_ ?_ | refine Exists.intro _ (And.intro rfl ?_) | refine And.intro ?_ ?_)
    refine SubE.dat fun r hr j hj => ?_
    have hr : r < i + 1 := hr
    obtain rfl : j = 0 := by have hj : j < 1 := hj; omega
    refine CEq.trans ?_ (h5 r (by simp; omega) 0 (by omega))
    rw [appC_at, appC_at, hl]
    by_cases e : i ≤ r
    · rw [if_pos e, if_pos e]
      obtain rfl : r = i := by omega
      rw [Nat.sub_self]
      exact CEq.refl _
    · rw [if_neg e, if_neg e]; exact CEq.refl _
  rename_i h
  clear h
  refine Out.mk (hQ _ _ ?_)
  clear hQ Q
  have hl := wts_len (weights := weights) (i := i) hi
  have hwok : i ≠ 0 → newOk (wts weights i) := fun h0 => ⟨⟨by omega, by omega⟩, wts_ok⟩
  have hce : CEq (Cell.sl 1 i fun r j => intE ((wts weights i).getD r default) j) (slL 1 intE (wts weights i)) := IsL.refl.ceq hl.symm
  generalize wts weights i = w at *
  have hE : newE w = if i = 0 then 1 else 0 := by
    by_cases h0 : i = 0
    · rw [if_pos h0]; exact if_neg (fun x => by have := x.1; omega)
    · rw [if_neg h0]; exact if_pos (hwok h0)
  repeat' first
    | (with_reducible first | refine NeedI.mk (fun h => h) ?_ | refine NeedI.mk (fun h => h.2) ?_ | refine NeedI.mk (fun h => h.1) ?_ | exact Done.mk | refine Both.mk (fun _ => ?_) (fun _ => ?_) | refine Both2.mk (fun _ => ?_) ?_ | refine Need.mk (by first | omega | with_reducible exact CEq.refl _ | (dsimp only; omega) | (dsimp only [rng]; omega) | (simp only [decide_eq_true_eq, decide_eq_false_iff_not, Bool.or_eq_true, Bool.and_eq_true, Bool.or_eq_false_iff, Int.toNat_natCast, addN_eq, cond_false, cond_true, rng] at *; omega) | exact ⟨rfl, rfl⟩) ?_)
    | ((with_reducible refine Need.mk ?_ ?_); exact CEq.refl _)
    | ((with_reducible fail_if_success first | refine LoopVC.mk ?_ | refine Need.mk ?_ ?_ | refine CallVC.mk ?_ | refine LoopEnd.mk ?_ | refine Out.mk ?_ | show False | refine NeedI.mk ?_ ?_); conv => whnf)
  refine CallVC.mk' (fun _ => new_ok K.k w (by omega)) (fun _ => .cons (.one (CEq.trans (CEq.slice fun r hr j hj => CEq.refl _) hce)) .nil) ?_
  rw [hE]
  have hst := fun k => AL.start (k := k) (w := w)
  generalize newL w = l0 at *
  repeat' first
    | (with_reducible first | refine NeedI.mk (fun h => h) ?_ | refine NeedI.mk (fun h => h.2) ?_ | refine NeedI.mk (fun h => h.1) ?_ | exact Done.mk | refine Both.mk (fun _ => ?_) (fun _ => ?_) | refine Both2.mk (fun _ => ?_) ?_ | refine Need.mk (by first | omega | with_reducible exact CEq.refl _ | (dsimp only; omega) | (dsimp only [rng]; omega) | (simp only [decide_eq_true_eq, decide_eq_false_iff_not, Bool.or_eq_true, Bool.and_eq_true, Bool.or_eq_false_iff, Int.toNat_natCast, addN_eq, cond_false, cond_true, rng] at *; omega) | exact ⟨rfl, rfl⟩) ?_)
    | ((with_reducible refine Need.mk ?_ ?_); exact CEq.refl _)
    | ((with_reducible fail_if_success first | refine LoopVC.mk ?_ | refine Need.mk ?_ ?_ | refine CallVC.mk ?_ | refine LoopEnd.mk ?_ | refine Out.mk ?_ | show False | refine NeedI.mk ?_ ?_); conv => whnf)
  · rename_i h
    have hb : (decide (100 < (costs.length : Int)) || decide ((i : Int) = 0)) = true := by
      by_cases h0 : i = 0
      · rw [decide_eq_true (show (i : Int) = 0 by omega), Bool.or_true]
      · rw [if_neg h0] at h
        have h : 100 < costs.length := by simp at h; omega
        rw [decide_eq_true (show 100 < (costs.length : Int) by omega)]; rfl
    refine CallVC.mk' (fun _ => awake_ok K) (fun _ => .nil) ?_
    rw [hb]
    repeat' first
      | (with_reducible first | refine NeedI.mk (fun h => h) ?_ | refine NeedI.mk (fun h => h.2) ?_ | refine NeedI.mk (fun h => h.1) ?_ | exact Done.mk | refine Both.mk (fun _ => ?_) (fun _ => ?_) | refine Both2.mk (fun _ => ?_) ?_ | refine Need.mk (by first | omega | with_reducible exact CEq.refl _ | (dsimp only; omega) | (dsimp only [rng]; omega) | (simp only [decide_eq_true_eq, decide_eq_false_iff_not, Bool.or_eq_true, Bool.and_eq_true, Bool.or_eq_false_iff, Int.toNat_natCast, addN_eq, cond_false, cond_true, rng] at *; omega) | exact ⟨rfl, rfl⟩) ?_)
      | ((with_reducible refine Need.mk ?_ ?_); exact CEq.refl _)
      | ((with_reducible fail_if_success first | refine LoopVC.mk ?_ | refine Need.mk ?_ ?_ | refine CallVC.mk ?_ | refine LoopEnd.mk ?_ | refine Out.mk ?_ | show False | refine NeedI.mk ?_ ?_); conv => whnf)
  rename_i h
  have h0 : i ≠ 0 := fun x => by rw [if_pos x] at h; simp at h
  have hcl : costs.length ≤ 100 := by rw [if_neg h0] at h; simp at h; omega
  obtain ⟨k, hk1, hk2⟩ : ∃ k : Nat, (lane.toNat : Int) % (i : Int) = (k : Int) ∧ k < i := ⟨lane.toNat % i, by push_cast; rfl, Nat.mod_lt _ (by omega)⟩
  have hst := hst k (hwok h0) (by omega)
  rw [if_neg h0]
  clear h hE hce
  have hlt := UInt8.toNat_lt lane
  refine Need.mk (by simp only [rng]; omega) ?_
  repeat' first
    | (with_reducible first | refine NeedI.mk (fun h => h) ?_ | refine NeedI.mk (fun h => h.2) ?_ | refine NeedI.mk (fun h => h.1) ?_ | exact Done.mk | refine Both.mk (fun _ => ?_) (fun _ => ?_) | refine Both2.mk (fun _ => ?_) ?_ | refine Need.mk (by first | omega | with_reducible exact CEq.refl _ | (dsimp only; omega) | (dsimp only [rng]; omega) | (simp only [decide_eq_true_eq, decide_eq_false_iff_not, Bool.or_eq_true, Bool.and_eq_true, Bool.or_eq_false_iff, Int.toNat_natCast, addN_eq, cond_false, cond_true, rng] at *; omega) | exact ⟨rfl, rfl⟩) ?_)
    | ((with_reducible refine Need.mk ?_ ?_); exact CEq.refl _)
    | ((with_reducible fail_if_success first | refine LoopVC.mk ?_ | refine Need.mk ?_ ?_ | refine CallVC.mk ?_ | refine LoopEnd.mk ?_ | refine Out.mk ?_ | show False | refine NeedI.mk ?_ ?_); conv => whnf)
  rw [hk1]
  refine LoopVC.inv (X := Ls × Nat) (fun x => AL w.length k ((costs.take x.2).map wt) x.1 ∧ x.2 ≤ costs.length)
    (fun x => stL [(2, .c (slL 1 EU8.enc costs)), (9, .va 9 0 0), (11, .c (.int .i64 k)), (74, .c (slL 1 EU8.enc costs)), (75, .c (.int .i64 costs.length)), (76, .c (.int .i64 x.2))]
      [(9, vE [.c (slL 3 lnE x.1.list), .c (.int .i64 x.1.at_), .c (.bool x.1.given)])]) (fun x => costs.length - x.2) ⟨l0, 0⟩ ⟨by rw [List.take_zero]; exact hst, Nat.zero_le _⟩ ?_ ?_
  · (refine Le.of ?_ ?_ <;> repeat' first | exact trivial | exact CEq.refl _ | exact rfl | exact cI (by push_cast; first | rfl | omega) | exact SubE.dat fun _ _ _ _ => CEq.refl _ | refine SubE.var2 ?_ ?_ | refine SubE.var1 ?_ | refine SubE.var3 ?_ ?_ ?_ | refine SubE.var4 ?_ ?_ ?_ ?_ | refine SubE.var5 ?_ ?_ ?_ ?_ ?_ | refine Exists.intro _ (And.intro rfl ?_) | refine And.intro ?_ ?_)
  rintro Q hQ ⟨l, j⟩ ⟨I, hj⟩
  dsimp only at I hj
  dsimp only
  repeat' first
    | (with_reducible first | refine NeedI.mk (fun h => h) ?_ | refine NeedI.mk (fun h => h.2) ?_ | refine NeedI.mk (fun h => h.1) ?_ | exact Done.mk | refine Both.mk (fun _ => ?_) (fun _ => ?_) | refine Both2.mk (fun _ => ?_) ?_ | refine Need.mk (by first | omega | with_reducible exact CEq.refl _ | (dsimp only; omega) | (dsimp only [rng]; omega) | (simp only [decide_eq_true_eq, decide_eq_false_iff_not, Bool.or_eq_true, Bool.and_eq_true, Bool.or_eq_false_iff, Int.toNat_natCast, addN_eq, cond_false, cond_true, rng] at *; omega) | exact ⟨rfl, rfl⟩) ?_)
    | ((with_reducible refine Need.mk ?_ ?_); exact CEq.refl _)
    | ((with_reducible fail_if_success first | refine LoopVC.mk ?_ | refine Need.mk ?_ ?_ | refine CallVC.mk ?_ | refine LoopEnd.mk ?_ | refine Out.mk ?_ | show False | refine NeedI.mk ?_ ?_); conv => whnf)
  · rename_i hjl
    have hjl : j < costs.length := by have := of_decide_eq_true hjl; omega
    have hp := I.push (wt_bd (b := costs.getD j default)) (by rw [List.length_map, List.length_take]; omega)
    rw [← List.map_singleton, ← List.map_append, ← take_snoc hjl] at hp
    refine CallVC.mk' (fun _ => push_ok K.k l k (wt (costs.getD j default)) I.r.tiny) (fun _ => .cons ((.many fun j hj => by (rcases (show j = 0 ∨ j = 1 ∨ j = 2 by omega) with rfl | rfl | rfl <;> exact CEq.refl _))) (.cons (.one (CEq.refl _)) (.cons (.one (CEq.refl _)) .nil))) ?_
    rw [hp.1]
    generalize pushL l k (wt (costs.getD j default)) = l2 at *
    repeat' first
      | (with_reducible first | refine NeedI.mk (fun h => h) ?_ | refine NeedI.mk (fun h => h.2) ?_ | refine NeedI.mk (fun h => h.1) ?_ | exact Done.mk | refine Both.mk (fun _ => ?_) (fun _ => ?_) | refine Both2.mk (fun _ => ?_) ?_ | refine Need.mk (by first | omega | with_reducible exact CEq.refl _ | (dsimp only; omega) | (dsimp only [rng]; omega) | (simp only [decide_eq_true_eq, decide_eq_false_iff_not, Bool.or_eq_true, Bool.and_eq_true, Bool.or_eq_false_iff, Int.toNat_natCast, addN_eq, cond_false, cond_true, rng] at *; omega) | exact ⟨rfl, rfl⟩) ?_)
      | ((with_reducible refine Need.mk ?_ ?_); exact CEq.refl _)
      | ((with_reducible fail_if_success first | refine LoopVC.mk ?_ | refine Need.mk ?_ ?_ | refine CallVC.mk ?_ | refine LoopEnd.mk ?_ | refine Out.mk ?_ | show False | refine NeedI.mk ?_ ?_); conv => whnf)
    · rename_i h; exact absurd h (by decide)
    refine LoopEnd.mk ⟨(l2, j + 1), ⟨hp.2, hjl⟩, by show costs.length - (j + 1) < costs.length - j; omega, ?_⟩
    (refine Le.of ?_ ?_ <;> repeat' first | exact trivial | exact CEq.refl _ | exact rfl | exact cI (by push_cast; first | rfl | omega) | exact SubE.dat fun _ _ _ _ => CEq.refl _ | refine SubE.var2 ?_ ?_ | refine SubE.var1 ?_ | refine SubE.var3 ?_ ?_ ?_ | refine SubE.var4 ?_ ?_ ?_ ?_ | refine SubE.var5 ?_ ?_ ?_ ?_ ?_ | refine Exists.intro _ (And.intro rfl ?_) | refine And.intro ?_ ?_)
  rename_i hjl
  have hjl : j = costs.length := by have := of_decide_eq_false hjl; omega
  rw [hjl, List.take_length] at I
  refine Out.mk (hQ _ _ ?_)
  clear hQ Q hjl hj
  repeat' first
    | (with_reducible first | refine NeedI.mk (fun h => h) ?_ | refine NeedI.mk (fun h => h.2) ?_ | refine NeedI.mk (fun h => h.1) ?_ | exact Done.mk | refine Both.mk (fun _ => ?_) (fun _ => ?_) | refine Both2.mk (fun _ => ?_) ?_ | refine Need.mk (by first | omega | with_reducible exact CEq.refl _ | (dsimp only; omega) | (dsimp only [rng]; omega) | (simp only [decide_eq_true_eq, decide_eq_false_iff_not, Bool.or_eq_true, Bool.and_eq_true, Bool.or_eq_false_iff, Int.toNat_natCast, addN_eq, cond_false, cond_true, rng] at *; omega) | exact ⟨rfl, rfl⟩) ?_)
    | ((with_reducible refine Need.mk ?_ ?_); exact CEq.refl _)
    | ((with_reducible fail_if_success first | refine LoopVC.mk ?_ | refine Need.mk ?_ ?_ | refine CallVC.mk ?_ | refine LoopEnd.mk ?_ | refine Out.mk ?_ | show False | refine NeedI.mk ?_ ?_); conv => whnf)
  refine LoopVC.inv (X := Ls × Nat) (fun x => AL w.length k ((costs.drop x.2).map wt) x.1 ∧ x.2 ≤ costs.length)
    (fun x => stL [(9, .va 9 0 0), (11, .c (.int .i64 k)), (94, .c (slL 1 EU8.enc costs)), (95, .c (.int .i64 costs.length)), (96, .c (.int .i64 x.2))]
      [(9, vE [.c (slL 3 lnE x.1.list), .c (.int .i64 x.1.at_), .c (.bool x.1.given)])]) (fun x => costs.length - x.2) ⟨l, 0⟩ ⟨by rw [List.drop_zero]; exact I, Nat.zero_le _⟩ ?_ ?_
  · (refine Le.of ?_ ?_ <;> repeat' first | exact trivial | exact CEq.refl _ | exact rfl | exact cI (by push_cast; first | rfl | omega) | exact SubE.dat fun _ _ _ _ => CEq.refl _ | refine SubE.var2 ?_ ?_ | refine SubE.var1 ?_ | refine SubE.var3 ?_ ?_ ?_ | refine SubE.var4 ?_ ?_ ?_ ?_ | refine SubE.var5 ?_ ?_ ?_ ?_ ?_ | refine Exists.intro _ (And.intro rfl ?_) | refine And.intro ?_ ?_)
  clear I
  rintro Q hQ ⟨l, j⟩ ⟨I, hj⟩
  dsimp only at I hj
  dsimp only
  repeat' first
    | (with_reducible first | refine NeedI.mk (fun h => h) ?_ | refine NeedI.mk (fun h => h.2) ?_ | refine NeedI.mk (fun h => h.1) ?_ | exact Done.mk | refine Both.mk (fun _ => ?_) (fun _ => ?_) | refine Both2.mk (fun _ => ?_) ?_ | refine Need.mk (by first | omega | with_reducible exact CEq.refl _ | (dsimp only; omega) | (dsimp only [rng]; omega) | (simp only [decide_eq_true_eq, decide_eq_false_iff_not, Bool.or_eq_true, Bool.and_eq_true, Bool.or_eq_false_iff, Int.toNat_natCast, addN_eq, cond_false, cond_true, rng] at *; omega) | exact ⟨rfl, rfl⟩) ?_)
    | ((with_reducible refine Need.mk ?_ ?_); exact CEq.refl _)
    | ((with_reducible fail_if_success first | refine LoopVC.mk ?_ | refine Need.mk ?_ ?_ | refine CallVC.mk ?_ | refine LoopEnd.mk ?_ | refine Out.mk ?_ | show False | refine NeedI.mk ?_ ?_); conv => whnf)
  · rename_i hjl
    have hjl : j < costs.length := by have := of_decide_eq_true hjl; omega
    have hd : costs.drop j = costs.getD j default :: costs.drop (j + 1) := by rw [getD_eq hjl]; exact List.drop_eq_getElem_cons hjl
    rw [hd, List.map_cons] at I
    obtain ⟨n1, n2, n3, n4⟩ := I.next (List.cons_ne_nil _ _)
    have n2 : AL w.length k ((costs.drop (j + 1)).map wt) (nextL l) := n2
    have n4 : nextC l = wt (costs.getD j default) := n4
    refine CallVC.mk' (fun _ => next_ok K.k l I.r.tiny) (fun _ => .cons ((.many fun j hj => by (rcases (show j = 0 ∨ j = 1 ∨ j = 2 by omega) with rfl | rfl | rfl <;> exact CEq.refl _))) .nil) ?_
    rw [decide_eq_true n1, n3, n4]
    generalize nextL l = l2 at *
    repeat' first
      | (with_reducible first | refine NeedI.mk (fun h => h) ?_ | refine NeedI.mk (fun h => h.2) ?_ | refine NeedI.mk (fun h => h.1) ?_ | exact Done.mk | refine Both.mk (fun _ => ?_) (fun _ => ?_) | refine Both2.mk (fun _ => ?_) ?_ | refine Need.mk (by first | omega | with_reducible exact CEq.refl _ | (dsimp only; omega) | (dsimp only [rng]; omega) | (simp only [decide_eq_true_eq, decide_eq_false_iff_not, Bool.or_eq_true, Bool.and_eq_true, Bool.or_eq_false_iff, Int.toNat_natCast, addN_eq, cond_false, cond_true, rng] at *; omega) | exact ⟨rfl, rfl⟩) ?_)
      | ((with_reducible refine Need.mk ?_ ?_); exact CEq.refl _)
      | ((with_reducible fail_if_success first | refine LoopVC.mk ?_ | refine Need.mk ?_ ?_ | refine CallVC.mk ?_ | refine LoopEnd.mk ?_ | refine Out.mk ?_ | show False | refine NeedI.mk ?_ ?_); conv => whnf)
    · rename_i h
      exfalso
      rw [decide_eq_true (show wt (costs.getD j default) = 1 + ((costs.getD ((j : Int)).toNat default).toNat : Int) % 8 from rfl)] at h
      simp at h
    refine LoopEnd.mk ⟨(l2, j + 1), ⟨n2, hjl⟩, by show costs.length - (j + 1) < costs.length - j; omega, ?_⟩
    clear n2 n4
    (refine Le.of ?_ ?_ <;> repeat' first | exact trivial | exact CEq.refl _ | exact rfl | exact cI (by push_cast; first | rfl | omega) | exact SubE.dat fun _ _ _ _ => CEq.refl _ | refine SubE.var2 ?_ ?_ | refine SubE.var1 ?_ | refine SubE.var3 ?_ ?_ ?_ | refine SubE.var4 ?_ ?_ ?_ ?_ | refine SubE.var5 ?_ ?_ ?_ ?_ ?_ | refine Exists.intro _ (And.intro rfl ?_) | refine And.intro ?_ ?_)
  rename_i hjl
  have hjl : j = costs.length := by have := of_decide_eq_false hjl; omega
  rw [hjl, List.drop_length] at I
  refine Out.mk (hQ _ _ ?_)
  repeat' first
    | (with_reducible first | refine NeedI.mk (fun h => h) ?_ | refine NeedI.mk (fun h => h.2) ?_ | refine NeedI.mk (fun h => h.1) ?_ | exact Done.mk | refine Both.mk (fun _ => ?_) (fun _ => ?_) | refine Both2.mk (fun _ => ?_) ?_ | refine Need.mk (by first | omega | with_reducible exact CEq.refl _ | (dsimp only; omega) | (dsimp only [rng]; omega) | (simp only [decide_eq_true_eq, decide_eq_false_iff_not, Bool.or_eq_true, Bool.and_eq_true, Bool.or_eq_false_iff, Int.toNat_natCast, addN_eq, cond_false, cond_true, rng] at *; omega) | exact ⟨rfl, rfl⟩) ?_)
    | ((with_reducible refine Need.mk ?_ ?_); exact CEq.refl _)
    | ((with_reducible fail_if_success first | refine LoopVC.mk ?_ | refine Need.mk ?_ ?_ | refine CallVC.mk ?_ | refine LoopEnd.mk ?_ | refine Out.mk ?_ | show False | refine NeedI.mk ?_ ?_); conv => whnf)
  have hno : ¬ nextOk l := fun x => (I.waits.1 x.2) rfl
  refine CallVC.mk' (fun _ => next_ok K.k l I.r.tiny) (fun _ => .cons ((.many fun j hj => by (rcases (show j = 0 ∨ j = 1 ∨ j = 2 by omega) with rfl | rfl | rfl <;> exact CEq.refl _))) .nil) ?_
  rw [decide_eq_false hno]
  repeat' first
    | (with_reducible first | refine NeedI.mk (fun h => h) ?_ | refine NeedI.mk (fun h => h.2) ?_ | refine NeedI.mk (fun h => h.1) ?_ | exact Done.mk | refine Both.mk (fun _ => ?_) (fun _ => ?_) | refine Both2.mk (fun _ => ?_) ?_ | refine Need.mk (by first | omega | with_reducible exact CEq.refl _ | (dsimp only; omega) | (dsimp only [rng]; omega) | (simp only [decide_eq_true_eq, decide_eq_false_iff_not, Bool.or_eq_true, Bool.and_eq_true, Bool.or_eq_false_iff, Int.toNat_natCast, addN_eq, cond_false, cond_true, rng] at *; omega) | exact ⟨rfl, rfl⟩) ?_)
    | ((with_reducible refine Need.mk ?_ ?_); exact CEq.refl _)
    | ((with_reducible fail_if_success first | refine LoopVC.mk ?_ | refine Need.mk ?_ ?_ | refine CallVC.mk ?_ | refine LoopEnd.mk ?_ | refine Out.mk ?_ | show False | refine NeedI.mk ?_ ?_); conv => whnf)
  refine CallVC.mk' (fun _ => awake_ok K) (fun _ => .nil) ?_
  repeat' first
    | (with_reducible first | refine NeedI.mk (fun h => h) ?_ | refine NeedI.mk (fun h => h.2) ?_ | refine NeedI.mk (fun h => h.1) ?_ | exact Done.mk | refine Both.mk (fun _ => ?_) (fun _ => ?_) | refine Both2.mk (fun _ => ?_) ?_ | refine Need.mk (by first | omega | with_reducible exact CEq.refl _ | (dsimp only; omega) | (dsimp only [rng]; omega) | (simp only [decide_eq_true_eq, decide_eq_false_iff_not, Bool.or_eq_true, Bool.and_eq_true, Bool.or_eq_false_iff, Int.toNat_natCast, addN_eq, cond_false, cond_true, rng] at *; omega) | exact ⟨rfl, rfl⟩) ?_)
    | ((with_reducible refine Need.mk ?_ ?_); exact CEq.refl _)
    | ((with_reducible fail_if_success first | refine LoopVC.mk ?_ | refine Need.mk ?_ ?_ | refine CallVC.mk ?_ | refine LoopEnd.mk ?_ | refine Out.mk ?_ | show False | refine NeedI.mk ?_ ?_); conv => whnf)
end
end Lk.S05
