/-
  Gs05c: what these chapters need.
-/
import Derived.Test.YtegfifeichfclaaGs05b
set_option linter.unusedSimpArgs false
set_option linter.unusedVariables false
namespace Lk.S05
open Go Lk Lk.C
def u8s (l : List UInt8) (_ : Nat) : Cell := slL 1 EU8.enc l
def wt (b : UInt8) : Int := 1 + (b.toNat : Int) % 8
def wts (weights : List UInt8) (i : Nat) : List Int := (weights.take i).map wt
theorem wts_len {weights : List UInt8} {i : Nat} (h : i ≤ weights.length) : (wts weights i).length = i := by unfold wts; simp; omega
theorem wts_succ {weights : List UInt8} {i : Nat} (h : i < weights.length) : wts weights (i + 1) = wts weights i ++ [wt (weights.getD i default)] := by
  unfold wts; rw [take_snoc h, List.map_append]; rfl
theorem wts_ok {weights : List UInt8} {i : Nat} : ∀ x ∈ wts weights i, 1 ≤ x ∧ x ≤ 8 := by
  intro x hx
  obtain ⟨b, _, rfl⟩ := List.mem_map.1 hx
  unfold wt; omega
def wOf (weights : List UInt8) : List Int := if wts weights (min weights.length 6) = [] then [1] else wts weights (min weights.length 6)
theorem wOf_ok {weights : List UInt8} : newOk (wOf weights) := by
  unfold wOf
  split
  · decide
  · rename_i h
    have hl := wts_len (weights := weights) (i := min weights.length 6) (Nat.min_le_left _ _)
    have h6 := Nat.min_le_right weights.length 6
    refine ⟨⟨?_, by omega⟩, wts_ok⟩
    cases hc : wts weights (min weights.length 6) with
    | nil => exact absurd hc h
    | cons => simp
/-- A lane's costs. -/
def cst (costs : List (List UInt8)) (i k : Nat) : Int :=
  if i < costs.length ∧ 0 < (costs.getD i default).length then 1 + (((costs.getD i default).getD (k % (costs.getD i default).length) default).toNat : Int) % 8 else 1 + ((i + k : Nat) : Int) % 8
theorem cst_ok {costs : List (List UInt8)} {i k : Nat} : 1 ≤ cst costs i k ∧ cst costs i k ≤ 8 := by unfold cst; split <;> omega
def flL (w : List Int) (costs : List (List UInt8)) (i k r : Nat) : Ln := ⟨w.getD r default, 0, (List.range (if r < i then 150 else if r = i then k else 0)).map (cst costs r)⟩
def fl (w : List Int) (costs : List (List UInt8)) (i k : Nat) : Ls := ⟨(List.range w.length).map (flL w costs i k), 0, false⟩
theorem fl_len {w : List Int} {costs : List (List UInt8)} {i k : Nat} : (fl w costs i k).list.length = w.length := by unfold fl; simp
theorem fl_at {w : List Int} {costs : List (List UInt8)} {i k r : Nat} (h : r < w.length) : (fl w costs i k).list.getD r default = flL w costs i k r := by
  unfold fl
  rw [getD_eq (by simpa using h)]; simp
theorem fl_right {w : List Int} {costs : List (List UInt8)} {i k : Nat} (hw : newOk w) (hk : k ≤ 150) : right (fl w costs i k) := by
  obtain ⟨⟨h1, h2⟩, h3⟩ := hw
  refine ⟨by rw [fl_len]; exact ⟨h1, h2⟩, by rw [fl_len]; exact ⟨by show (0 : Int) ≤ 0; omega, by show (0 : Int) < _; omega⟩, fun r hr => ?_⟩
  rw [fl_len] at hr
  rw [fl_at hr]
  have hm : mst (fl w costs i k) r = 7 := if_neg fun x => absurd x.2 (by show ¬ (false = true); decide)
  rw [hm]
  refine ⟨h3 _ (getD_mem hr), by show (0 : Int) ≤ 0 ∧ (0 : Int) ≤ 7; omega, ?_, fun c hc => ?_⟩
  · show ((List.range _).map _).length ≤ 200
    rw [List.length_map, List.length_range]; split
    · decide
    · split <;> omega
  · obtain ⟨j, _, rfl⟩ := List.mem_map.1 hc; exact cst_ok
theorem fl_next {w : List Int} {costs : List (List UInt8)} {i : Nat} : fl w costs i 150 = fl w costs (i + 1) 0 := by
  unfold fl flL
  congr 1
  refine List.map_congr_left fun r _ => ?_
  congr 3
  by_cases h1 : r < i
  · rw [if_pos h1, if_pos (by omega)]
  · by_cases h2 : r = i
    · rw [if_neg h1, if_pos h2, if_pos (by omega)]
    · rw [if_neg h1, if_neg h2, if_neg (by omega)]; split <;> rfl
theorem fl_push {w : List Int} {costs : List (List UInt8)} {i k : Nat} (hw : newOk w) (hi : i < w.length) (hk : k < 150) : pushE (fl w costs i k) i (cst costs i k) = 0 ∧ pushL (fl w costs i k) i (cst costs i k) = fl w costs i (k + 1) := by
  have hr := fl_right (costs := costs) (i := i) (k := k) hw (by omega)
  have hc := cst_ok (costs := costs) (i := i) (k := k)
  have hcl : ((fl w costs i k).list.getD i default).costs.length = k := by rw [fl_at hi]; unfold flL; simp
  have hp : pushOk (fl w costs i k) i (cst costs i k) := ⟨hr, ⟨by omega, by rw [fl_len]; omega⟩, hc.1, hc.2⟩
  have he : pushE (fl w costs i k) i (cst costs i k) = 0 := by
    unfold pushE; rw [if_pos hp, Int.toNat_natCast, hcl, if_neg (by omega)]
  refine ⟨he, ?_⟩
  unfold pushL
  rw [if_pos he, Int.toNat_natCast]
  unfold pushX
  rw [fl_at hi]
  show Ls.mk _ 0 false = Ls.mk _ 0 false
  congr 1
  refine List.ext_getElem (by simp [fl]) fun r h1 h2 => ?_
  rw [List.getElem_set]
  by_cases e : i = r
  · subst e
    rw [if_pos rfl]
    simp only [fl, List.getElem_map, List.getElem_range]
    unfold flL
    simp [List.range_succ]
  · rw [if_neg e]
    simp only [fl, List.getElem_map, List.getElem_range]
    unfold flL
    have hri : ¬ r = i := fun x => e x.symm
    simp only [if_neg hri]
theorem fl_new {w : List Int} {costs : List (List UInt8)} (hw : newOk w) : newL w = fl w costs 0 0 := by
  unfold newL; rw [if_pos hw]
  unfold fl
  congr 1
  refine List.ext_getElem (by simp) fun r h1 h2 => ?_
  simp only [List.getElem_map, List.getElem_range]
  unfold flL newLn
  have h1 : r < w.length := by simpa using h1
  rw [getD_eq h1]
  simp
section
variable {P : Program} {F : Nat → Nat}
set_option maxHeartbeats 8000000 in
set_option maxRecDepth 100000 in
theorem filled_ok (K : K05 P F) (hk : law05_filled_k P F) (weights : List UInt8) (costs : List (List UInt8)) (h1 : weights.length ≤ 9223372036854775807) (h2 : costs.length ≤ 9223372036854775807) (h3 : ∀ l ∈ costs, l.length ≤ 9223372036854775807) :
    FnOk P (F 85) [.one (slL 1 EU8.enc weights), .one (slL 1 u8s costs)] [.many 3 (fun j => .im (lsE (fl (wOf weights) costs (wOf weights).length 0) j)), .one (.im (slL 1 intE (wOf weights))), .one (.im (.bool true))] := by
  refine fnOk K.k.m hk ?_
  repeat' first
    | (with_reducible first | refine NeedI.mk (fun h => h) ?_ | refine NeedI.mk (fun h => h.2) ?_ | refine NeedI.mk (fun h => h.1) ?_ | exact Done.mk | refine Both.mk (fun _ => ?_) (fun _ => ?_) | refine Both2.mk (fun _ => ?_) ?_ | refine Need.mk (by first | omega | with_reducible exact CEq.refl _ | (dsimp only; omega) | (dsimp only [rng]; omega) | (simp only [decide_eq_true_eq, decide_eq_false_iff_not, Bool.or_eq_true, Bool.and_eq_true, Bool.or_eq_false_iff, Int.toNat_natCast, addN_eq, cond_false, cond_true, rng] at *; omega) | exact ⟨rfl, rfl⟩) ?_)
    | ((with_reducible refine Need.mk ?_ ?_); exact CEq.refl _)
    | ((with_reducible fail_if_success first | refine LoopVC.mk ?_ | refine Need.mk ?_ ?_ | refine CallVC.mk ?_ | refine LoopEnd.mk ?_ | refine Out.mk ?_ | show False | refine NeedI.mk ?_ ?_); conv => whnf)
  refine LoopVC.inv (fun i : Nat => i ≤ weights.length ∧ i ≤ 6) (fun i => stL [(0, .c (slL 1 EU8.enc weights)), (1, .c (slL 1 u8s costs)), (4, .va 4 0 0), (7, .os 35 0 1 0 i), (8, .c (.int .i64 i))]
    [(4, vE [.nil 3, .c (.int .i64 0), .c (.bool false)]), (35, ⟨1, i, .dat fun r j => intE ((wts weights i).getD r default) j, false, true⟩)]) (fun i => 6 - i) 0 ⟨Nat.zero_le _, by decide⟩ ?_ ?_
  · (refine Le.ofN [35] ?_ ?_ <;> repeat' first | exact trivial | exact SubF.inr ⟨_, _, _, rfl, rfl, rfl⟩ | exact SubF.inl (cI (by push_cast; first | rfl | omega)) | exact SubF.inl (CEq.refl _) | exact SubF.inl rfl | exact SubF.inl trivial | exact SubF.inl ⟨rfl, rfl, rfl⟩ | exact SubF.inl ⟨rfl, rfl, rfl, rfl, rfl⟩ | exact Or.inl ⟨rfl, rfl⟩ | refine Or.inr ⟨rfl, _, rfl, ?_⟩ | refine SubEF.var2 ?_ ?_ | refine SubEF.var1 ?_ | refine SubEF.var3 ?_ ?_ ?_ | refine SubEF.var4 ?_ ?_ ?_ ?_ | exact SubEF.of (SubE.dat fun _ _ _ _ => CEq.refl _) | refine And.intro ?_ ?_ | refine SubF.frz rfl rfl rfl rfl (Nat.le_of_eq (Nat.zero_add _)) rfl rfl ?_)
  rintro Q hQ i ⟨hi, hi6⟩
  repeat' first
    | (with_reducible first | refine NeedI.mk (fun h => h) ?_ | refine NeedI.mk (fun h => h.2) ?_ | refine NeedI.mk (fun h => h.1) ?_ | exact Done.mk | refine Both.mk (fun _ => ?_) (fun _ => ?_) | refine Both2.mk (fun _ => ?_) ?_ | refine Need.mk (by first | omega | with_reducible exact CEq.refl _ | (dsimp only; omega) | (dsimp only [rng]; omega) | (simp only [decide_eq_true_eq, decide_eq_false_iff_not, Bool.or_eq_true, Bool.and_eq_true, Bool.or_eq_false_iff, Int.toNat_natCast, addN_eq, cond_false, cond_true, rng] at *; omega) | exact ⟨rfl, rfl⟩) ?_)
    | ((with_reducible refine Need.mk ?_ ?_); exact CEq.refl _)
    | ((with_reducible fail_if_success first | refine LoopVC.mk ?_ | refine Need.mk ?_ ?_ | refine CallVC.mk ?_ | refine LoopEnd.mk ?_ | refine Out.mk ?_ | show False | refine NeedI.mk ?_ ?_); conv => whnf)
  · rename_i h
    simp only [Bool.and_eq_true, decide_eq_true_eq] at h
    refine LoopEnd.mk ⟨i + 1, ⟨by omega, by omega⟩, by omega, ?_⟩
    have hl := wts_len (weights := weights) (i := i) hi
    have hs := wts_succ (weights := weights) (i := i) (by omega)
    rw [hs]
    generalize hw : wts weights i = w0 at *
    have h5 := (IsL.refl (size := 1) (enc := intE) (l := w0)).app (m := [wt (weights.getD i default)]) rfl (IsL.one (g := fun _ _ => Cell.int .i64 (wt (weights.getD i default))) fun j hj => CEq.refl _)
    (refine Le.of ?_ ?_ <;> repeat' first | exact trivial | exact CEq.refl _ | exact rfl | exact cI (by push_cast; first | rfl | omega) | exact SubE.dat fun _ _ _ _ => CEq.refl _ | refine SubE.var2 ?_ ?_ | refine SubE.var1 ?_ | refine SubE.var3 ?_ ?_ ?_ | refine SubE.var4 ?_ ?_ ?_ ?_ | refine SubE.var5 ?_ ?_ ?_ ?_ ?_ | refine Exists.intro _ (And.intro rfl ?_) | refine And.intro ?_ ?_)
    refine SubE.dat fun r hr j hj => ?_
    have hr : r < i + 1 := hr
    obtain rfl : j = 0 := by have hj : j < 1 := hj; omega
    refine CEq.trans ?_ (h5 r (by simp; omega) 0 (by omega))
    rw [appC_at, appC_at, hl]
    by_cases e : i ≤ r
    · rw [if_pos e, if_pos e]
      obtain rfl : r = i := by omega
      rw [Nat.sub_self]
      exact CEq.refl _
    · rw [if_neg e, if_neg e]; exact CEq.refl _
  · rename_i h
    simp only [Bool.and_eq_false_iff, decide_eq_false_iff_not] at h
    have hm : i = min weights.length 6 := by omega
    refine Out.mk (hQ _ _ ?_)
    have hl := wts_len (weights := weights) (i := i) hi
    have hwok := wOf_ok (weights := weights)
    repeat' first
      | (with_reducible first | refine NeedI.mk (fun h => h) ?_ | refine NeedI.mk (fun h => h.2) ?_ | refine NeedI.mk (fun h => h.1) ?_ | exact Done.mk | refine Both.mk (fun _ => ?_) (fun _ => ?_) | refine Both2.mk (fun _ => ?_) ?_ | refine Need.mk (by first | omega | with_reducible exact CEq.refl _ | (dsimp only; omega) | (dsimp only [rng]; omega) | (simp only [decide_eq_true_eq, decide_eq_false_iff_not, Bool.or_eq_true, Bool.and_eq_true, Bool.or_eq_false_iff, Int.toNat_natCast, addN_eq, cond_false, cond_true, rng] at *; omega) | exact ⟨rfl, rfl⟩) ?_)
      | ((with_reducible refine Need.mk ?_ ?_); exact CEq.refl _)
      | ((with_reducible fail_if_success first | refine LoopVC.mk ?_ | refine Need.mk ?_ ?_ | refine CallVC.mk ?_ | refine LoopEnd.mk ?_ | refine Out.mk ?_ | show False | refine NeedI.mk ?_ ?_); conv => whnf)
    · rename_i h5
      have h5 : i = 0 := by have := of_decide_eq_true h5; omega
      have hw : wOf weights = [1] := if_pos (by rw [← hm]; exact List.length_eq_zero_iff.1 (by omega))
      have hwl : ((1 : Nat) : Int) = ((wOf weights).length : Int) := by rw [hw]; rfl
      have hce : CEq (Cell.sl 1 1 fun i j => intE 1 j) (slL 1 intE (wOf weights)) := by
        rw [hw]; exact (IsL.one (x := (1 : Int)) fun j hj => CEq.refl _).ceq rfl
      refine CallVC.mk' (fun _ => new_ok K.k (wOf weights) (by have := hwok.1; omega)) (fun _ => .cons (.one ?_) .nil) ?_
      · refine CEq.trans ?_ hce
        first
          | exact CEq.refl _
          | exact CEq.slice fun r hr j hj => by (obtain rfl : r = 0 := (by omega)); (obtain rfl : j = 0 := (by omega)); exact CEq.refl _
      have hfl := fl_new (costs := costs) hwok
      have hE : newE (wOf weights) = 0 := if_pos hwok
      rw [hfl, hE]
      have hpush := fun i k => fl_push (costs := costs) (i := i) (k := k) hwok
      have hright := fun i k => fl_right (costs := costs) (i := i) (k := k) hwok
      have hnext := fun i => fl_next (w := wOf weights) (costs := costs) (i := i)
      have hw6 := hwok.1
      generalize wOf weights = w at *
      repeat' first
        | (with_reducible first | refine NeedI.mk (fun h => h) ?_ | refine NeedI.mk (fun h => h.2) ?_ | refine NeedI.mk (fun h => h.1) ?_ | exact Done.mk | refine Both.mk (fun _ => ?_) (fun _ => ?_) | refine Both2.mk (fun _ => ?_) ?_ | refine Need.mk (by first | omega | with_reducible exact CEq.refl _ | (dsimp only; omega) | (dsimp only [rng]; omega) | (simp only [decide_eq_true_eq, decide_eq_false_iff_not, Bool.or_eq_true, Bool.and_eq_true, Bool.or_eq_false_iff, Int.toNat_natCast, addN_eq, cond_false, cond_true, rng] at *; omega) | exact ⟨rfl, rfl⟩) ?_)
        | ((with_reducible refine Need.mk ?_ ?_); exact CEq.refl _)
        | ((with_reducible fail_if_success first | refine LoopVC.mk ?_ | refine Need.mk ?_ ?_ | refine CallVC.mk ?_ | refine LoopEnd.mk ?_ | refine Out.mk ?_ | show False | refine NeedI.mk ?_ ?_); conv => whnf)
      refine LoopVC.inv (fun i : Nat => i ≤ w.length) (fun i => stL [(1, .c (slL 1 u8s costs)), (4, .va 4 0 0), (7, .c (slL 1 intE w)), (9, .va 9 0 0), (10, .c (.int .i64 0)), (46, .c (.int .i64 w.length)), (47, .c (.int .i64 i))]
        [(4, vE [.nil 3, .c (.int .i64 0), .c (.bool false)]), (9, vE [.c (slL 3 lnE (fl w costs i 0).list), .c (.int .i64 (fl w costs i 0).at_), .c (.bool (fl w costs i 0).given)])]) (fun i => w.length - i) 0 (Nat.zero_le _) ?_ ?_
      · (refine Le.ofN [] ?_ ?_ <;> repeat' first | exact trivial | exact SubF.inr ⟨_, _, _, rfl, rfl, rfl⟩ | exact SubF.inl (cI (by push_cast; first | rfl | omega)) | exact SubF.inl (CEq.refl _) | exact SubF.inl rfl | exact SubF.inl trivial | exact SubF.inl ⟨rfl, rfl, rfl⟩ | exact SubF.inl ⟨rfl, rfl, rfl, rfl, rfl⟩ | exact Or.inl ⟨rfl, rfl⟩ | refine Or.inr ⟨rfl, _, rfl, ?_⟩ | refine SubEF.var2 ?_ ?_ | refine SubEF.var1 ?_ | refine SubEF.var3 ?_ ?_ ?_ | refine SubEF.var4 ?_ ?_ ?_ ?_ | exact SubEF.of (SubE.dat fun _ _ _ _ => CEq.refl _) | refine And.intro ?_ ?_ | refine SubF.frz rfl rfl rfl rfl (Nat.le_of_eq (Nat.zero_add _)) rfl rfl ?_)
        all_goals first
          | exact CEq.trans (CEq.slice fun r hr j hj => CEq.refl _) hce
          | exact CEq.trans (CEq.slice fun r hr j hj => by (obtain rfl : r = 0 := (by omega)); (obtain rfl : j = 0 := (by omega)); exact CEq.refl _) hce
          | exact SubF.inl (cI hwl)
      rintro Q2 hQ2 a ha
      repeat' first
        | (with_reducible first | refine NeedI.mk (fun h => h) ?_ | refine NeedI.mk (fun h => h.2) ?_ | refine NeedI.mk (fun h => h.1) ?_ | exact Done.mk | refine Both.mk (fun _ => ?_) (fun _ => ?_) | refine Both2.mk (fun _ => ?_) ?_ | refine Need.mk (by first | omega | with_reducible exact CEq.refl _ | (dsimp only; omega) | (dsimp only [rng]; omega) | (simp only [decide_eq_true_eq, decide_eq_false_iff_not, Bool.or_eq_true, Bool.and_eq_true, Bool.or_eq_false_iff, Int.toNat_natCast, addN_eq, cond_false, cond_true, rng] at *; omega) | exact ⟨rfl, rfl⟩) ?_)
        | ((with_reducible refine Need.mk ?_ ?_); exact CEq.refl _)
        | ((with_reducible fail_if_success first | refine LoopVC.mk ?_ | refine Need.mk ?_ ?_ | refine CallVC.mk ?_ | refine LoopEnd.mk ?_ | refine Out.mk ?_ | show False | refine NeedI.mk ?_ ?_); conv => whnf)
      · rename_i h
        have ha : a < w.length := by have := of_decide_eq_true h; omega
        refine LoopVC.inv (fun k : Nat => k ≤ 150) (fun k => stL [(1, .c (slL 1 u8s costs)), (4, .va 4 0 0), (7, .c (slL 1 intE w)), (9, .va 9 0 0), (10, .c (.int .i64 0)), (11, .c (.int .i64 a)), (46, .c (.int .i64 w.length)), (47, .c (.int .i64 a)), (50, .c (.int .i64 k))]
          [(4, vE [.nil 3, .c (.int .i64 0), .c (.bool false)]), (9, vE [.c (slL 3 lnE (fl w costs a k).list), .c (.int .i64 (fl w costs a k).at_), .c (.bool (fl w costs a k).given)])]) (fun k => 150 - k) 0 (Nat.zero_le _) ?_ ?_
        · (refine Le.of ?_ ?_ <;> repeat' first | exact trivial | exact CEq.refl _ | exact rfl | exact cI (by push_cast; first | rfl | omega) | exact SubE.dat fun _ _ _ _ => CEq.refl _ | refine SubE.var2 ?_ ?_ | refine SubE.var1 ?_ | refine SubE.var3 ?_ ?_ ?_ | refine SubE.var4 ?_ ?_ ?_ ?_ | refine SubE.var5 ?_ ?_ ?_ ?_ ?_ | refine Exists.intro _ (And.intro rfl ?_) | refine And.intro ?_ ?_)
        rintro Q3 hQ3 k hk
        have hcs : cst costs a k = if a < costs.length ∧ 0 < (costs.getD a default).length then 1 + (((costs.getD a default).getD (k % (costs.getD a default).length) default).toNat : Int) % 8 else 1 + ((a + k : Nat) : Int) % 8 := rfl
        repeat' first
          | (with_reducible first | refine NeedI.mk (fun h => h) ?_ | refine NeedI.mk (fun h => h.2) ?_ | refine NeedI.mk (fun h => h.1) ?_ | exact Done.mk | refine Both.mk (fun _ => ?_) (fun _ => ?_) | refine Both2.mk (fun _ => ?_) ?_ | refine Need.mk (by first | omega | with_reducible exact CEq.refl _ | (dsimp only; omega) | (dsimp only [rng]; omega) | (simp only [decide_eq_true_eq, decide_eq_false_iff_not, Bool.or_eq_true, Bool.and_eq_true, Bool.or_eq_false_iff, Int.toNat_natCast, addN_eq, cond_false, cond_true, rng] at *; omega) | exact ⟨rfl, rfl⟩) ?_)
          | ((with_reducible refine Need.mk ?_ ?_); exact CEq.refl _)
          | ((with_reducible fail_if_success first | refine LoopVC.mk ?_ | refine Need.mk ?_ ?_ | refine CallVC.mk ?_ | refine LoopEnd.mk ?_ | refine Out.mk ?_ | show False | refine NeedI.mk ?_ ?_); conv => whnf)
        · rename_i hk' hc
          have hk' : k < 150 := by have := of_decide_eq_true hk'; omega
          rw [Bool.and_eq_true] at hc
          have hc1 : a < costs.length := by have := of_decide_eq_true hc.1; omega
          have hc2 : 0 < (costs.getD a default).length := by have := of_decide_eq_true hc.2; rw [Int.toNat_natCast] at this; omega
          rw [if_pos ⟨hc1, hc2⟩] at hcs
          refine Need.mk ⟨Int.emod_nonneg _ (by rw [Int.toNat_natCast]; omega), Int.emod_lt_of_pos _ (by rw [Int.toNat_natCast]; omega)⟩ ?_
          repeat' first
            | (with_reducible first | refine NeedI.mk (fun h => h) ?_ | refine NeedI.mk (fun h => h.2) ?_ | refine NeedI.mk (fun h => h.1) ?_ | exact Done.mk | refine Both.mk (fun _ => ?_) (fun _ => ?_) | refine Both2.mk (fun _ => ?_) ?_ | refine Need.mk (by first | omega | with_reducible exact CEq.refl _ | (dsimp only; omega) | (dsimp only [rng]; omega) | (simp only [decide_eq_true_eq, decide_eq_false_iff_not, Bool.or_eq_true, Bool.and_eq_true, Bool.or_eq_false_iff, Int.toNat_natCast, addN_eq, cond_false, cond_true, rng] at *; omega) | exact ⟨rfl, rfl⟩) ?_)
            | ((with_reducible refine Need.mk ?_ ?_); exact CEq.refl _)
            | ((with_reducible fail_if_success first | refine LoopVC.mk ?_ | refine Need.mk ?_ ?_ | refine CallVC.mk ?_ | refine LoopEnd.mk ?_ | refine Out.mk ?_ | show False | refine NeedI.mk ?_ ?_); conv => whnf)
          have hcm : (1 : Int) + ((((costs.getD a default).getD (k % (costs.getD a default).length) default).toNat : Int) % 8) = cst costs a k := hcs.symm
          have hr := hright a k hk
          have hp := hpush a k ha hk'
          have hco := cst_ok (costs := costs) (i := a) (k := k)
          refine CallVC.mk' (fun _ => push_ok K.k (fl w costs a k) a (cst costs a k) hr.tiny) (fun _ => .cons ((.many fun j hj => by (rcases (show j = 0 ∨ j = 1 ∨ j = 2 by omega) with rfl | rfl | rfl <;> exact CEq.refl _))) (.cons (.one (CEq.refl _)) (.cons (.one (?_)) .nil))) ?_
          · refine eI ?_
            first
              | rw [hcs, Int.toNat_natCast, ← Int.natCast_emod, Int.toNat_natCast]
              | (rw [hcs]; push_cast; rfl)
          rw [hp.1, hp.2]
          clear hcs
          generalize hf1 : fl w costs a (k + 1) = f1 at *
          generalize fl w costs a k = f0 at *
          repeat' first
            | (with_reducible first | refine NeedI.mk (fun h => h) ?_ | refine NeedI.mk (fun h => h.2) ?_ | refine NeedI.mk (fun h => h.1) ?_ | exact Done.mk | refine Both.mk (fun _ => ?_) (fun _ => ?_) | refine Both2.mk (fun _ => ?_) ?_ | refine Need.mk (by first | omega | with_reducible exact CEq.refl _ | (dsimp only; omega) | (dsimp only [rng]; omega) | (simp only [decide_eq_true_eq, decide_eq_false_iff_not, Bool.or_eq_true, Bool.and_eq_true, Bool.or_eq_false_iff, Int.toNat_natCast, addN_eq, cond_false, cond_true, rng] at *; omega) | exact ⟨rfl, rfl⟩) ?_)
            | ((with_reducible refine Need.mk ?_ ?_); exact CEq.refl _)
            | ((with_reducible fail_if_success first | refine LoopVC.mk ?_ | refine Need.mk ?_ ?_ | refine CallVC.mk ?_ | refine LoopEnd.mk ?_ | refine Out.mk ?_ | show False | refine NeedI.mk ?_ ?_); conv => whnf)
          · rename_i h; exact absurd h (by decide)
          refine LoopEnd.mk ⟨k + 1, by omega, by omega, ?_⟩
          rw [hf1]
          clear hf1
          (refine Le.of ?_ ?_ <;> repeat' first | exact trivial | exact CEq.refl _ | exact rfl | exact cI (by push_cast; first | rfl | omega) | exact SubE.dat fun _ _ _ _ => CEq.refl _ | refine SubE.var2 ?_ ?_ | refine SubE.var1 ?_ | refine SubE.var3 ?_ ?_ ?_ | refine SubE.var4 ?_ ?_ ?_ ?_ | refine SubE.var5 ?_ ?_ ?_ ?_ ?_ | refine Exists.intro _ (And.intro rfl ?_) | refine And.intro ?_ ?_)
        · rename_i hk' hc
          have hk' : k < 150 := by have := of_decide_eq_true hk'; omega
          rw [if_neg (fun x => by rw [Bool.and_eq_false_iff] at hc; rcases hc with e | e <;> (have e := of_decide_eq_false e; first | (rw [Int.toNat_natCast] at e; omega) | omega))] at hcs
          have hr := hright a k hk
          have hp := hpush a k ha hk'
          have hco := cst_ok (costs := costs) (i := a) (k := k)
          refine CallVC.mk' (fun _ => push_ok K.k (fl w costs a k) a (cst costs a k) hr.tiny) (fun _ => .cons ((.many fun j hj => by (rcases (show j = 0 ∨ j = 1 ∨ j = 2 by omega) with rfl | rfl | rfl <;> exact CEq.refl _))) (.cons (.one (CEq.refl _)) (.cons (.one (?_)) .nil))) ?_
          · refine eI ?_
            first
              | rw [hcs, Int.toNat_natCast, ← Int.natCast_emod, Int.toNat_natCast]
              | (rw [hcs]; push_cast; rfl)
          rw [hp.1, hp.2]
          clear hcs
          generalize hf1 : fl w costs a (k + 1) = f1 at *
          generalize fl w costs a k = f0 at *
          repeat' first
            | (with_reducible first | refine NeedI.mk (fun h => h) ?_ | refine NeedI.mk (fun h => h.2) ?_ | refine NeedI.mk (fun h => h.1) ?_ | exact Done.mk | refine Both.mk (fun _ => ?_) (fun _ => ?_) | refine Both2.mk (fun _ => ?_) ?_ | refine Need.mk (by first | omega | with_reducible exact CEq.refl _ | (dsimp only; omega) | (dsimp only [rng]; omega) | (simp only [decide_eq_true_eq, decide_eq_false_iff_not, Bool.or_eq_true, Bool.and_eq_true, Bool.or_eq_false_iff, Int.toNat_natCast, addN_eq, cond_false, cond_true, rng] at *; omega) | exact ⟨rfl, rfl⟩) ?_)
            | ((with_reducible refine Need.mk ?_ ?_); exact CEq.refl _)
            | ((with_reducible fail_if_success first | refine LoopVC.mk ?_ | refine Need.mk ?_ ?_ | refine CallVC.mk ?_ | refine LoopEnd.mk ?_ | refine Out.mk ?_ | show False | refine NeedI.mk ?_ ?_); conv => whnf)
          · rename_i h; exact absurd h (by decide)
          refine LoopEnd.mk ⟨k + 1, by omega, by omega, ?_⟩
          rw [hf1]
          clear hf1
          (refine Le.of ?_ ?_ <;> repeat' first | exact trivial | exact CEq.refl _ | exact rfl | exact cI (by push_cast; first | rfl | omega) | exact SubE.dat fun _ _ _ _ => CEq.refl _ | refine SubE.var2 ?_ ?_ | refine SubE.var1 ?_ | refine SubE.var3 ?_ ?_ ?_ | refine SubE.var4 ?_ ?_ ?_ ?_ | refine SubE.var5 ?_ ?_ ?_ ?_ ?_ | refine Exists.intro _ (And.intro rfl ?_) | refine And.intro ?_ ?_)
        · rename_i hk'
          have hk' : k = 150 := by have := of_decide_eq_false hk'; omega
          refine Out.mk (hQ3 _ _ ?_)
          repeat' first
            | (with_reducible first | refine NeedI.mk (fun h => h) ?_ | refine NeedI.mk (fun h => h.2) ?_ | refine NeedI.mk (fun h => h.1) ?_ | exact Done.mk | refine Both.mk (fun _ => ?_) (fun _ => ?_) | refine Both2.mk (fun _ => ?_) ?_ | refine Need.mk (by first | omega | with_reducible exact CEq.refl _ | (dsimp only; omega) | (dsimp only [rng]; omega) | (simp only [decide_eq_true_eq, decide_eq_false_iff_not, Bool.or_eq_true, Bool.and_eq_true, Bool.or_eq_false_iff, Int.toNat_natCast, addN_eq, cond_false, cond_true, rng] at *; omega) | exact ⟨rfl, rfl⟩) ?_)
            | ((with_reducible refine Need.mk ?_ ?_); exact CEq.refl _)
            | ((with_reducible fail_if_success first | refine LoopVC.mk ?_ | refine Need.mk ?_ ?_ | refine CallVC.mk ?_ | refine LoopEnd.mk ?_ | refine Out.mk ?_ | show False | refine NeedI.mk ?_ ?_); conv => whnf)
          refine LoopEnd.mk ⟨a + 1, by omega, by omega, ?_⟩
          have hn := hnext a
          rw [← hk'] at hn
          generalize fl w costs a k = f1 at *
          rw [← hn]
          (refine Le.of ?_ ?_ <;> repeat' first | exact trivial | exact CEq.refl _ | exact rfl | exact cI (by push_cast; first | rfl | omega) | exact SubE.dat fun _ _ _ _ => CEq.refl _ | refine SubE.var2 ?_ ?_ | refine SubE.var1 ?_ | refine SubE.var3 ?_ ?_ ?_ | refine SubE.var4 ?_ ?_ ?_ ?_ | refine SubE.var5 ?_ ?_ ?_ ?_ ?_ | refine Exists.intro _ (And.intro rfl ?_) | refine And.intro ?_ ?_)
      · rename_i h
        have ha : a = w.length := by have := of_decide_eq_false h; omega
        refine Out.mk (hQ2 _ _ ?_)
        subst ha
        repeat' first
          | (with_reducible first | refine NeedI.mk (fun h => h) ?_ | refine NeedI.mk (fun h => h.2) ?_ | refine NeedI.mk (fun h => h.1) ?_ | exact Done.mk | refine Both.mk (fun _ => ?_) (fun _ => ?_) | refine Both2.mk (fun _ => ?_) ?_ | refine Need.mk (by first | omega | with_reducible exact CEq.refl _ | (dsimp only; omega) | (dsimp only [rng]; omega) | (simp only [decide_eq_true_eq, decide_eq_false_iff_not, Bool.or_eq_true, Bool.and_eq_true, Bool.or_eq_false_iff, Int.toNat_natCast, addN_eq, cond_false, cond_true, rng] at *; omega) | exact ⟨rfl, rfl⟩) ?_)
          | ((with_reducible refine Need.mk ?_ ?_); exact CEq.refl _)
          | ((with_reducible fail_if_success first | refine LoopVC.mk ?_ | refine Need.mk ?_ ?_ | refine CallVC.mk ?_ | refine LoopEnd.mk ?_ | refine Out.mk ?_ | show False | refine NeedI.mk ?_ ?_); conv => whnf)
    · rename_i h5
      have h5 : ¬ i = 0 := by have := of_decide_eq_false h5; omega
      have hw : wOf weights = wts weights i := by
        unfold wOf; rw [← hm, if_neg (fun e => by rw [e] at hl; simp at hl; omega)]
      have hwl : ((i : Nat) : Int) = ((wOf weights).length : Int) := by rw [hw, hl]
      have hce : CEq (Cell.sl 1 i fun r j => intE ((wts weights i).getD r default) j) (slL 1 intE (wOf weights)) := by
        rw [hw]; exact IsL.refl.ceq hl.symm
      refine CallVC.mk' (fun _ => new_ok K.k (wOf weights) (by have := hwok.1; omega)) (fun _ => .cons (.one ?_) .nil) ?_
      · refine CEq.trans ?_ hce
        first
          | exact CEq.refl _
          | exact CEq.slice fun r hr j hj => by (obtain rfl : r = 0 := (by omega)); (obtain rfl : j = 0 := (by omega)); exact CEq.refl _
      have hfl := fl_new (costs := costs) hwok
      have hE : newE (wOf weights) = 0 := if_pos hwok
      rw [hfl, hE]
      have hpush := fun i k => fl_push (costs := costs) (i := i) (k := k) hwok
      have hright := fun i k => fl_right (costs := costs) (i := i) (k := k) hwok
      have hnext := fun i => fl_next (w := wOf weights) (costs := costs) (i := i)
      have hw6 := hwok.1
      generalize wOf weights = w at *
      repeat' first
        | (with_reducible first | refine NeedI.mk (fun h => h) ?_ | refine NeedI.mk (fun h => h.2) ?_ | refine NeedI.mk (fun h => h.1) ?_ | exact Done.mk | refine Both.mk (fun _ => ?_) (fun _ => ?_) | refine Both2.mk (fun _ => ?_) ?_ | refine Need.mk (by first | omega | with_reducible exact CEq.refl _ | (dsimp only; omega) | (dsimp only [rng]; omega) | (simp only [decide_eq_true_eq, decide_eq_false_iff_not, Bool.or_eq_true, Bool.and_eq_true, Bool.or_eq_false_iff, Int.toNat_natCast, addN_eq, cond_false, cond_true, rng] at *; omega) | exact ⟨rfl, rfl⟩) ?_)
        | ((with_reducible refine Need.mk ?_ ?_); exact CEq.refl _)
        | ((with_reducible fail_if_success first | refine LoopVC.mk ?_ | refine Need.mk ?_ ?_ | refine CallVC.mk ?_ | refine LoopEnd.mk ?_ | refine Out.mk ?_ | show False | refine NeedI.mk ?_ ?_); conv => whnf)
      refine LoopVC.inv (fun i : Nat => i ≤ w.length) (fun i => stL [(1, .c (slL 1 u8s costs)), (4, .va 4 0 0), (7, .c (slL 1 intE w)), (9, .va 9 0 0), (10, .c (.int .i64 0)), (46, .c (.int .i64 w.length)), (47, .c (.int .i64 i))]
        [(4, vE [.nil 3, .c (.int .i64 0), .c (.bool false)]), (9, vE [.c (slL 3 lnE (fl w costs i 0).list), .c (.int .i64 (fl w costs i 0).at_), .c (.bool (fl w costs i 0).given)])]) (fun i => w.length - i) 0 (Nat.zero_le _) ?_ ?_
      · (refine Le.ofN [] ?_ ?_ <;> repeat' first | exact trivial | exact SubF.inr ⟨_, _, _, rfl, rfl, rfl⟩ | exact SubF.inl (cI (by push_cast; first | rfl | omega)) | exact SubF.inl (CEq.refl _) | exact SubF.inl rfl | exact SubF.inl trivial | exact SubF.inl ⟨rfl, rfl, rfl⟩ | exact SubF.inl ⟨rfl, rfl, rfl, rfl, rfl⟩ | exact Or.inl ⟨rfl, rfl⟩ | refine Or.inr ⟨rfl, _, rfl, ?_⟩ | refine SubEF.var2 ?_ ?_ | refine SubEF.var1 ?_ | refine SubEF.var3 ?_ ?_ ?_ | refine SubEF.var4 ?_ ?_ ?_ ?_ | exact SubEF.of (SubE.dat fun _ _ _ _ => CEq.refl _) | refine And.intro ?_ ?_ | refine SubF.frz rfl rfl rfl rfl (Nat.le_of_eq (Nat.zero_add _)) rfl rfl ?_)
        all_goals first
          | exact CEq.trans (CEq.slice fun r hr j hj => CEq.refl _) hce
          | exact CEq.trans (CEq.slice fun r hr j hj => by (obtain rfl : r = 0 := (by omega)); (obtain rfl : j = 0 := (by omega)); exact CEq.refl _) hce
          | exact SubF.inl (cI hwl)
      rintro Q2 hQ2 a ha
      repeat' first
        | (with_reducible first | refine NeedI.mk (fun h => h) ?_ | refine NeedI.mk (fun h => h.2) ?_ | refine NeedI.mk (fun h => h.1) ?_ | exact Done.mk | refine Both.mk (fun _ => ?_) (fun _ => ?_) | refine Both2.mk (fun _ => ?_) ?_ | refine Need.mk (by first | omega | with_reducible exact CEq.refl _ | (dsimp only; omega) | (dsimp only [rng]; omega) | (simp only [decide_eq_true_eq, decide_eq_false_iff_not, Bool.or_eq_true, Bool.and_eq_true, Bool.or_eq_false_iff, Int.toNat_natCast, addN_eq, cond_false, cond_true, rng] at *; omega) | exact ⟨rfl, rfl⟩) ?_)
        | ((with_reducible refine Need.mk ?_ ?_); exact CEq.refl _)
        | ((with_reducible fail_if_success first | refine LoopVC.mk ?_ | refine Need.mk ?_ ?_ | refine CallVC.mk ?_ | refine LoopEnd.mk ?_ | refine Out.mk ?_ | show False | refine NeedI.mk ?_ ?_); conv => whnf)
      · rename_i h
        have ha : a < w.length := by have := of_decide_eq_true h; omega
        refine LoopVC.inv (fun k : Nat => k ≤ 150) (fun k => stL [(1, .c (slL 1 u8s costs)), (4, .va 4 0 0), (7, .c (slL 1 intE w)), (9, .va 9 0 0), (10, .c (.int .i64 0)), (11, .c (.int .i64 a)), (46, .c (.int .i64 w.length)), (47, .c (.int .i64 a)), (50, .c (.int .i64 k))]
          [(4, vE [.nil 3, .c (.int .i64 0), .c (.bool false)]), (9, vE [.c (slL 3 lnE (fl w costs a k).list), .c (.int .i64 (fl w costs a k).at_), .c (.bool (fl w costs a k).given)])]) (fun k => 150 - k) 0 (Nat.zero_le _) ?_ ?_
        · (refine Le.of ?_ ?_ <;> repeat' first | exact trivial | exact CEq.refl _ | exact rfl | exact cI (by push_cast; first | rfl | omega) | exact SubE.dat fun _ _ _ _ => CEq.refl _ | refine SubE.var2 ?_ ?_ | refine SubE.var1 ?_ | refine SubE.var3 ?_ ?_ ?_ | refine SubE.var4 ?_ ?_ ?_ ?_ | refine SubE.var5 ?_ ?_ ?_ ?_ ?_ | refine Exists.intro _ (And.intro rfl ?_) | refine And.intro ?_ ?_)
        rintro Q3 hQ3 k hk
        have hcs : cst costs a k = if a < costs.length ∧ 0 < (costs.getD a default).length then 1 + (((costs.getD a default).getD (k % (costs.getD a default).length) default).toNat : Int) % 8 else 1 + ((a + k : Nat) : Int) % 8 := rfl
        repeat' first
          | (with_reducible first | refine NeedI.mk (fun h => h) ?_ | refine NeedI.mk (fun h => h.2) ?_ | refine NeedI.mk (fun h => h.1) ?_ | exact Done.mk | refine Both.mk (fun _ => ?_) (fun _ => ?_) | refine Both2.mk (fun _ => ?_) ?_ | refine Need.mk (by first | omega | with_reducible exact CEq.refl _ | (dsimp only; omega) | (dsimp only [rng]; omega) | (simp only [decide_eq_true_eq, decide_eq_false_iff_not, Bool.or_eq_true, Bool.and_eq_true, Bool.or_eq_false_iff, Int.toNat_natCast, addN_eq, cond_false, cond_true, rng] at *; omega) | exact ⟨rfl, rfl⟩) ?_)
          | ((with_reducible refine Need.mk ?_ ?_); exact CEq.refl _)
          | ((with_reducible fail_if_success first | refine LoopVC.mk ?_ | refine Need.mk ?_ ?_ | refine CallVC.mk ?_ | refine LoopEnd.mk ?_ | refine Out.mk ?_ | show False | refine NeedI.mk ?_ ?_); conv => whnf)
        · rename_i hk' hc
          have hk' : k < 150 := by have := of_decide_eq_true hk'; omega
          rw [Bool.and_eq_true] at hc
          have hc1 : a < costs.length := by have := of_decide_eq_true hc.1; omega
          have hc2 : 0 < (costs.getD a default).length := by have := of_decide_eq_true hc.2; rw [Int.toNat_natCast] at this; omega
          rw [if_pos ⟨hc1, hc2⟩] at hcs
          refine Need.mk ⟨Int.emod_nonneg _ (by rw [Int.toNat_natCast]; omega), Int.emod_lt_of_pos _ (by rw [Int.toNat_natCast]; omega)⟩ ?_
          repeat' first
            | (with_reducible first | refine NeedI.mk (fun h => h) ?_ | refine NeedI.mk (fun h => h.2) ?_ | refine NeedI.mk (fun h => h.1) ?_ | exact Done.mk | refine Both.mk (fun _ => ?_) (fun _ => ?_) | refine Both2.mk (fun _ => ?_) ?_ | refine Need.mk (by first | omega | with_reducible exact CEq.refl _ | (dsimp only; omega) | (dsimp only [rng]; omega) | (simp only [decide_eq_true_eq, decide_eq_false_iff_not, Bool.or_eq_true, Bool.and_eq_true, Bool.or_eq_false_iff, Int.toNat_natCast, addN_eq, cond_false, cond_true, rng] at *; omega) | exact ⟨rfl, rfl⟩) ?_)
            | ((with_reducible refine Need.mk ?_ ?_); exact CEq.refl _)
            | ((with_reducible fail_if_success first | refine LoopVC.mk ?_ | refine Need.mk ?_ ?_ | refine CallVC.mk ?_ | refine LoopEnd.mk ?_ | refine Out.mk ?_ | show False | refine NeedI.mk ?_ ?_); conv => whnf)
          have hcm : (1 : Int) + ((((costs.getD a default).getD (k % (costs.getD a default).length) default).toNat : Int) % 8) = cst costs a k := hcs.symm
          have hr := hright a k hk
          have hp := hpush a k ha hk'
          have hco := cst_ok (costs := costs) (i := a) (k := k)
          refine CallVC.mk' (fun _ => push_ok K.k (fl w costs a k) a (cst costs a k) hr.tiny) (fun _ => .cons ((.many fun j hj => by (rcases (show j = 0 ∨ j = 1 ∨ j = 2 by omega) with rfl | rfl | rfl <;> exact CEq.refl _))) (.cons (.one (CEq.refl _)) (.cons (.one (?_)) .nil))) ?_
          · refine eI ?_
            first
              | rw [hcs, Int.toNat_natCast, ← Int.natCast_emod, Int.toNat_natCast]
              | (rw [hcs]; push_cast; rfl)
          rw [hp.1, hp.2]
          clear hcs
          generalize hf1 : fl w costs a (k + 1) = f1 at *
          generalize fl w costs a k = f0 at *
          repeat' first
            | (with_reducible first | refine NeedI.mk (fun h => h) ?_ | refine NeedI.mk (fun h => h.2) ?_ | refine NeedI.mk (fun h => h.1) ?_ | exact Done.mk | refine Both.mk (fun _ => ?_) (fun _ => ?_) | refine Both2.mk (fun _ => ?_) ?_ | refine Need.mk (by first | omega | with_reducible exact CEq.refl _ | (dsimp only; omega) | (dsimp only [rng]; omega) | (simp only [decide_eq_true_eq, decide_eq_false_iff_not, Bool.or_eq_true, Bool.and_eq_true, Bool.or_eq_false_iff, Int.toNat_natCast, addN_eq, cond_false, cond_true, rng] at *; omega) | exact ⟨rfl, rfl⟩) ?_)
            | ((with_reducible refine Need.mk ?_ ?_); exact CEq.refl _)
            | ((with_reducible fail_if_success first | refine LoopVC.mk ?_ | refine Need.mk ?_ ?_ | refine CallVC.mk ?_ | refine LoopEnd.mk ?_ | refine Out.mk ?_ | show False | refine NeedI.mk ?_ ?_); conv => whnf)
          · rename_i h; exact absurd h (by decide)
          refine LoopEnd.mk ⟨k + 1, by omega, by omega, ?_⟩
          rw [hf1]
          clear hf1
          (refine Le.of ?_ ?_ <;> repeat' first | exact trivial | exact CEq.refl _ | exact rfl | exact cI (by push_cast; first | rfl | omega) | exact SubE.dat fun _ _ _ _ => CEq.refl _ | refine SubE.var2 ?_ ?_ | refine SubE.var1 ?_ | refine SubE.var3 ?_ ?_ ?_ | refine SubE.var4 ?_ ?_ ?_ ?_ | refine SubE.var5 ?_ ?_ ?_ ?_ ?_ | refine Exists.intro _ (And.intro rfl ?_) | refine And.intro ?_ ?_)
        · rename_i hk' hc
          have hk' : k < 150 := by have := of_decide_eq_true hk'; omega
          rw [if_neg (fun x => by rw [Bool.and_eq_false_iff] at hc; rcases hc with e | e <;> (have e := of_decide_eq_false e; first | (rw [Int.toNat_natCast] at e; omega) | omega))] at hcs
          have hr := hright a k hk
          have hp := hpush a k ha hk'
          have hco := cst_ok (costs := costs) (i := a) (k := k)
          refine CallVC.mk' (fun _ => push_ok K.k (fl w costs a k) a (cst costs a k) hr.tiny) (fun _ => .cons ((.many fun j hj => by (rcases (show j = 0 ∨ j = 1 ∨ j = 2 by omega) with rfl | rfl | rfl <;> exact CEq.refl _))) (.cons (.one (CEq.refl _)) (.cons (.one (?_)) .nil))) ?_
          · refine eI ?_
            first
              | rw [hcs, Int.toNat_natCast, ← Int.natCast_emod, Int.toNat_natCast]
              | (rw [hcs]; push_cast; rfl)
          rw [hp.1, hp.2]
          clear hcs
          generalize hf1 : fl w costs a (k + 1) = f1 at *
          generalize fl w costs a k = f0 at *
          repeat' first
            | (with_reducible first | refine NeedI.mk (fun h => h) ?_ | refine NeedI.mk (fun h => h.2) ?_ | refine NeedI.mk (fun h => h.1) ?_ | exact Done.mk | refine Both.mk (fun _ => ?_) (fun _ => ?_) | refine Both2.mk (fun _ => ?_) ?_ | refine Need.mk (by first | omega | with_reducible exact CEq.refl _ | (dsimp only; omega) | (dsimp only [rng]; omega) | (simp only [decide_eq_true_eq, decide_eq_false_iff_not, Bool.or_eq_true, Bool.and_eq_true, Bool.or_eq_false_iff, Int.toNat_natCast, addN_eq, cond_false, cond_true, rng] at *; omega) | exact ⟨rfl, rfl⟩) ?_)
            | ((with_reducible refine Need.mk ?_ ?_); exact CEq.refl _)
            | ((with_reducible fail_if_success first | refine LoopVC.mk ?_ | refine Need.mk ?_ ?_ | refine CallVC.mk ?_ | refine LoopEnd.mk ?_ | refine Out.mk ?_ | show False | refine NeedI.mk ?_ ?_); conv => whnf)
          · rename_i h; exact absurd h (by decide)
          refine LoopEnd.mk ⟨k + 1, by omega, by omega, ?_⟩
          rw [hf1]
          clear hf1
          (refine Le.of ?_ ?_ <;> repeat' first | exact trivial | exact CEq.refl _ | exact rfl | exact cI (by push_cast; first | rfl | omega) | exact SubE.dat fun _ _ _ _ => CEq.refl _ | refine SubE.var2 ?_ ?_ | refine SubE.var1 ?_ | refine SubE.var3 ?_ ?_ ?_ | refine SubE.var4 ?_ ?_ ?_ ?_ | refine SubE.var5 ?_ ?_ ?_ ?_ ?_ | refine Exists.intro _ (And.intro rfl ?_) | refine And.intro ?_ ?_)
        · rename_i hk'
          have hk' : k = 150 := by have := of_decide_eq_false hk'; omega
          refine Out.mk (hQ3 _ _ ?_)
          repeat' first
            | (with_reducible first | refine NeedI.mk (fun h => h) ?_ | refine NeedI.mk (fun h => h.2) ?_ | refine NeedI.mk (fun h => h.1) ?_ | exact Done.mk | refine Both.mk (fun _ => ?_) (fun _ => ?_) | refine Both2.mk (fun _ => ?_) ?_ | refine Need.mk (by first | omega | with_reducible exact CEq.refl _ | (dsimp only; omega) | (dsimp only [rng]; omega) | (simp only [decide_eq_true_eq, decide_eq_false_iff_not, Bool.or_eq_true, Bool.and_eq_true, Bool.or_eq_false_iff, Int.toNat_natCast, addN_eq, cond_false, cond_true, rng] at *; omega) | exact ⟨rfl, rfl⟩) ?_)
            | ((with_reducible refine Need.mk ?_ ?_); exact CEq.refl _)
            | ((with_reducible fail_if_success first | refine LoopVC.mk ?_ | refine Need.mk ?_ ?_ | refine CallVC.mk ?_ | refine LoopEnd.mk ?_ | refine Out.mk ?_ | show False | refine NeedI.mk ?_ ?_); conv => whnf)
          refine LoopEnd.mk ⟨a + 1, by omega, by omega, ?_⟩
          have hn := hnext a
          rw [← hk'] at hn
          generalize fl w costs a k = f1 at *
          rw [← hn]
          (refine Le.of ?_ ?_ <;> repeat' first | exact trivial | exact CEq.refl _ | exact rfl | exact cI (by push_cast; first | rfl | omega) | exact SubE.dat fun _ _ _ _ => CEq.refl _ | refine SubE.var2 ?_ ?_ | refine SubE.var1 ?_ | refine SubE.var3 ?_ ?_ ?_ | refine SubE.var4 ?_ ?_ ?_ ?_ | refine SubE.var5 ?_ ?_ ?_ ?_ ?_ | refine Exists.intro _ (And.intro rfl ?_) | refine And.intro ?_ ?_)
      · rename_i h
        have ha : a = w.length := by have := of_decide_eq_false h; omega
        refine Out.mk (hQ2 _ _ ?_)
        subst ha
        repeat' first
          | (with_reducible first | refine NeedI.mk (fun h => h) ?_ | refine NeedI.mk (fun h => h.2) ?_ | refine NeedI.mk (fun h => h.1) ?_ | exact Done.mk | refine Both.mk (fun _ => ?_) (fun _ => ?_) | refine Both2.mk (fun _ => ?_) ?_ | refine Need.mk (by first | omega | with_reducible exact CEq.refl _ | (dsimp only; omega) | (dsimp only [rng]; omega) | (simp only [decide_eq_true_eq, decide_eq_false_iff_not, Bool.or_eq_true, Bool.and_eq_true, Bool.or_eq_false_iff, Int.toNat_natCast, addN_eq, cond_false, cond_true, rng] at *; omega) | exact ⟨rfl, rfl⟩) ?_)
          | ((with_reducible refine Need.mk ?_ ?_); exact CEq.refl _)
          | ((with_reducible fail_if_success first | refine LoopVC.mk ?_ | refine Need.mk ?_ ?_ | refine CallVC.mk ?_ | refine LoopEnd.mk ?_ | refine Out.mk ?_ | show False | refine NeedI.mk ?_ ?_); conv => whnf)
end
end Lk.S05
namespace Lk.S05
open Go Lk Lk.C
def TT (l : Ls) (K : Int) (i : Nat) : Int := if i < pos l ∨ (i = pos l ∧ l.given = true) then K + 1 else K
structure FI (w : List Int) (S : List Int) (m : Nat) (K : Int) (l : Ls) : Prop where
  r : right l
  n : l.list.length = w.length
  sn : S.length = w.length
  ww : ∀ i, i < w.length → (l.list.getD i default).weight = w.getD i default
  c : ∀ i, i < w.length → 150 ≤ (l.list.getD i default).costs.length + m
  g : l.given = true → (cur l).deficit ≤ 4 * (cur l).weight + 7
  b : ∀ i, i < w.length → 0 ≤ S.getD i default ∧ S.getD i default ≤ 8 * m
  e : ∀ i, i < w.length → S.getD i default + (l.list.getD i default).deficit = 4 * w.getD i default * TT l K i
variable {w S : List Int} {m : Nat} {K : Int} {l : Ls}
theorem FI.ne (h : FI w S m K l) (hm : m ≤ 148) : 2 ≤ (cur l).costs.length := by
  have := h.c (pos l) (by rw [← h.n]; exact h.r.pos.1)
  unfold cur; omega
theorem FI.waits (h : FI w S m K l) (hm : m ≤ 148) : waits l := by
  rw [← waits_fst]
  have hn := h.ne hm
  exact fstN_lt_iff.2 ⟨pos l, h.r.pos.1, decide_eq_true (by unfold cur at hn; omega)⟩
theorem FI.advS (h : FI w S m K l) (hm : m ≤ 148) (hg : gv l < hd0 l) : ∃ K', FI w S m K' (adv l (gv l)) := by
  have hp := h.r.pos
  have hgb := gv_bd h.r
  have hne : (cur l).costs ≠ [] := fun x => by have := h.ne hm; rw [x] at this; simp at this
  have hh := hd_bd h.r hne
  have hr := adv_right (d := gv l) h.r (by omega) (by omega)
  have hpa := adv_pos (d := gv l) h.r
  have hpn : pos l < w.length := by rw [← h.n]; exact hp.1
  have ee := h.e (pos l) hpn
  have ew := h.ww (pos l) hpn
  have key : ∀ K' : Int, (∀ i, i < w.length → i ≠ pos l → TT (S05.adv l (gv l)) K' i = TT l K i) → TT (S05.adv l (gv l)) K' (pos l) = K + 1 → FI w S m K' (S05.adv l (gv l)) := fun K' h1 h2 => by
    refine ⟨hr, by rw [adv_len]; exact h.n, h.sn, fun i hi => ?_, fun i hi => ?_, fun x => absurd x (by show ¬ (false = true); decide), h.b, fun i hi => ?_⟩
    · rw [adv_at (by rw [h.n]; exact hi)]
      by_cases e : i = pos l
      · rw [if_pos e, e]; exact ew
      · rw [if_neg e]; exact h.ww i hi
    · rw [adv_at (by rw [h.n]; exact hi)]
      by_cases e : i = pos l
      · rw [if_pos e]; have := h.c i hi; rw [e] at this; exact this
      · rw [if_neg e]; exact h.c i hi
    · rw [adv_at (by rw [h.n]; exact hi)]
      by_cases e : i = pos l
      · rw [if_pos e, e, h2]
        show S.getD (pos l) default + gv l = _
        unfold gv
        cases hgv : l.given with
        | true =>
          rw [if_pos rfl]
          rw [show TT l K (pos l) = K + 1 from if_pos (.inr ⟨rfl, hgv⟩)] at ee
          exact ee
        | false =>
          rw [if_neg (by decide)]
          rw [show TT l K (pos l) = K from if_neg (fun x => by rcases x with x | x <;> first | omega | (rw [hgv] at x; exact absurd x.2 (by decide)))] at ee
          rw [Int.mul_add, Int.mul_one, ← ee]
          unfold cur; rw [ew]; omega
      · rw [if_neg e, h1 i hi e]; exact h.e i hi
  have hgf : ¬ (S05.adv l (gv l)).given = true := by show ¬ (false = true); decide
  rw [h.n] at hpa
  rcases Nat.lt_or_ge (pos l + 1) w.length with hc | hc
  · rw [Nat.mod_eq_of_lt hc] at hpa
    refine ⟨K, key K (fun i hi e => ?_) (if_pos (.inl (by rw [hpa]; omega)))⟩
    unfold TT
    rw [hpa]
    by_cases e2 : i < pos l
    · rw [if_pos (.inl (by omega)), if_pos (.inl e2)]
    · rw [if_neg (fun x => by rcases x with x | x <;> first | omega | exact hgf x.2), if_neg (fun x => by rcases x with x | x <;> omega)]
  · have : pos l + 1 = w.length := by omega
    rw [this, Nat.mod_self] at hpa
    have h0 : ∀ i, TT (S05.adv l (gv l)) (K + 1) i = K + 1 := fun i => if_neg (fun x => by rcases x with x | x <;> first | omega | exact hgf x.2)
    refine ⟨K + 1, key (K + 1) (fun i hi e => ?_) (h0 _)⟩
    rw [h0]
    exact (if_pos (.inl (by omega))).symm
theorem FI.srvS (h : FI w S m K l) (hm : m ≤ 148) (hg : ¬ gv l < hd0 l) : FI w (S.set (pos l) (S.getD (pos l) default + hd0 l)) (m + 1) K (srv l) := by
  have hp := h.r.pos
  have hgb := gv_bd h.r
  have hne2 := h.ne hm
  have hne : (cur l).costs ≠ [] := fun x => by rw [x] at hne2; simp at hne2
  have hh := hd_bd h.r hne
  have hr := srv_right h.r hne hg
  have hpn : pos l < w.length := by rw [← h.n]; exact hp.1
  have ee := h.e (pos l) hpn
  have ew := h.ww (pos l) hpn
  have hdr : ¬ (cur l).costs.drop 1 = [] := fun x => by
    have : ((cur l).costs.drop 1).length = 0 := by rw [x]; rfl
    rw [List.length_drop] at this; omega
  have hps : pos (srv l) = pos l := rfl
  have hcur : cur (S05.srv l) = ⟨(cur l).weight, gv l - hd0 l, (cur l).costs.drop 1⟩ := by
    show (S05.srv l).list.getD (pos l) default = _
    rw [srv_at hp.1, if_pos rfl, if_neg hdr]
  have hT : TT (S05.srv l) K (pos l) = K + 1 := if_pos (.inr ⟨rfl, rfl⟩)
  have hTo : ∀ i, i ≠ pos l → TT (S05.srv l) K i = TT l K i := fun i e => by
    unfold TT; rw [hps]
    by_cases e2 : i < pos l
    · rw [if_pos (.inl e2), if_pos (.inl e2)]
    · rw [if_neg (fun x => by rcases x with x | x <;> omega), if_neg (fun x => by rcases x with x | x <;> omega)]
  have hgl : gv l = (if l.given = true then (cur l).deficit else (cur l).deficit + (cur l).weight * 4) := rfl
  have hSat : ∀ i, i < w.length → (S.set (pos l) (S.getD (pos l) default + hd0 l)).getD i default = if i = pos l then S.getD (pos l) default + hd0 l else S.getD i default := fun i hi => setL_getD (by rw [h.sn]; exact hi)
  have hcl := h.r.cur
  refine ⟨hr, by rw [srv_len]; exact h.n, by rw [List.length_set]; exact h.sn, fun i hi => ?_, fun i hi => ?_, fun _ => ?_, fun i hi => ?_, fun i hi => ?_⟩
  · rw [srv_at (by rw [h.n]; exact hi)]
    by_cases e : i = pos l
    · rw [if_pos e, e]; exact ew
    · rw [if_neg e]; exact h.ww i hi
  · rw [srv_at (by rw [h.n]; exact hi)]
    have hc := h.c i hi
    by_cases e : i = pos l
    · rw [if_pos e]; rw [e] at hc
      show 150 ≤ ((cur l).costs.drop 1).length + (m + 1)
      rw [List.length_drop]; unfold cur at *; omega
    · rw [if_neg e]; omega
  · rw [hcur]
    show gv l - hd0 l ≤ 4 * (cur l).weight + 7
    rw [hgl]
    cases hgv : l.given with
    | true => have := h.g hgv; rw [if_pos rfl]; omega
    | false =>
      rw [if_neg (by decide)]
      rw [show mst l (pos l) = 7 from if_neg fun x => by rw [hgv] at x; exact absurd x.2 (by decide)] at hcl
      have := hcl.2.1.2; omega
  · rw [hSat i hi]
    have := h.b i hi
    by_cases e : i = pos l
    · rw [if_pos e]; rw [e] at this; omega
    · rw [if_neg e]; omega
  · rw [hSat i hi, srv_at (by rw [h.n]; exact hi)]
    by_cases e : i = pos l
    · rw [if_pos e, if_pos e, if_neg hdr, e, hT]
      show S.getD (pos l) default + hd0 l + (gv l - hd0 l) = _
      rw [hgl]
      cases hgv : l.given with
      | true =>
        rw [if_pos rfl]
        rw [show TT l K (pos l) = K + 1 from if_pos (.inr ⟨rfl, hgv⟩)] at ee
        rw [← ee]; unfold cur; omega
      | false =>
        rw [if_neg (by decide)]
        rw [show TT l K (pos l) = K from if_neg (fun x => by rcases x with x | x <;> first | omega | (rw [hgv] at x; exact absurd x.2 (by decide)))] at ee
        rw [Int.mul_add, Int.mul_one, ← ee]
        unfold cur; rw [ew]; omega
    · rw [if_neg e, if_neg e, hTo i e]; exact h.e i hi
/-- One more is served. -/
structure FStep (w S : List Int) (m : Nat) (l' : Ls) (c : Int) : Prop where
  i : ∃ K, FI w (S.set (pos l') (S.getD (pos l') default + c)) (m + 1) K l'
  g : l'.given = true
  c : 1 ≤ c ∧ c ≤ 8
theorem FI.next (h : ∃ K, FI w S m K l) (hm : m ≤ 148) : nextOk l ∧ right (nextL l) ∧ FStep w S m (nextL l) (nextC l) ∧ nextA l = ((pos (nextL l) : Nat) : Int) ∧ pos (nextL l) < w.length := by
  obtain ⟨K0, h0⟩ := h
  have hok : nextOk l := ⟨h0.r, h0.waits hm⟩
  have := nx_ind (fun l => ∃ K, FI w S m K l) (fun l' c => FStep w S m l' c) (fun l k hr hw ⟨K, hJ⟩ ht => by
    unfold turn at ht
    have h2 := hJ.ne hm
    split at ht
    · rename_i x; rw [x] at h2; simp at h2
    · split at ht
      · rename_i hd
        obtain rfl : adv l (gv l) = k := congrArg Prod.fst ht
        exact hJ.advS hm hd
      · cases congrArg Prod.snd ht) (fun l hr ⟨K, hJ⟩ hn hd => ⟨⟨K, hJ.srvS hm hd⟩, rfl, hd_bd hr hn⟩) h0.r hok.2 ⟨K0, h0⟩
  have e1 : nextL l = (nx l).1 := if_pos hok
  have e2 : nextC l = (nx l).2 := if_pos hok
  have e3 : nextA l = (nx l).1.at_ := if_pos hok
  rw [e1, e2, e3]
  obtain ⟨K, hK⟩ := this.2.i
  exact ⟨hok, this.1, this.2, this.1.pos.2.symm, by have := hK.n; rw [← this]; exact hK.r.pos.1⟩
theorem FI.bd (h : FI w S m K l) (hw : newOk w) {i : Nat} (hi : i < w.length) : (1 ≤ w.getD i default ∧ w.getD i default ≤ 8) ∧ 0 ≤ (l.list.getD i default).deficit ∧ (l.list.getD i default).deficit ≤ 4 * w.getD i default + 7 ∧ (TT l K i = K + 1 ∨ (TT l K i = K ∧ (l.list.getD i default).deficit ≤ 7)) := by
  have hw8 := hw.2 _ (getD_mem hi)
  have hr := h.r.2.2 i (by rw [h.n]; exact hi)
  refine ⟨hw8, hr.2.1.1, ?_, ?_⟩
  · have h2 := hr.2.1.2
    unfold mst at h2
    split at h2
    · rename_i x
      have := h.g x.2
      have hp : i = pos l := by have := h.r.pos.2; omega
      rw [← h.ww i hi, hp]; exact this
    · omega
  · unfold TT
    split
    · exact .inl rfl
    · rename_i x
      have h2 := hr.2.1.2
      rw [show mst l i = 7 from if_neg fun y => x (.inr ⟨by have := h.r.pos.2; omega, y.2⟩)] at h2
      exact .inr ⟨rfl, h2⟩
theorem c8 {a : Int} (h : 1 ≤ a ∧ a ≤ 8) : a = 1 ∨ a = 2 ∨ a = 3 ∨ a = 4 ∨ a = 5 ∨ a = 6 ∨ a = 7 ∨ a = 8 := by omega
theorem fair_num {a b x y d f K t u : Int} (ha : 1 ≤ a ∧ a ≤ 8) (hb : 1 ≤ b ∧ b ≤ 8) (h1 : x + d = 4 * a * t) (h2 : y + f = 4 * b * u) (hd : 0 ≤ d) (hf : f ≤ 4 * b + 7) (ht : t = K + 1 ∨ t = K) (hu : u = K + 1 ∨ (u = K ∧ f ≤ 7)) : x * b - y * a ≤ a * b * 4 + 7 * a := by
  rcases c8 ha with rfl | rfl | rfl | rfl | rfl | rfl | rfl | rfl <;> rcases c8 hb with rfl | rfl | rfl | rfl | rfl | rfl | rfl | rfl <;> omega
theorem FI.fair (h : FI w S m K l) (hw : newOk w) {i j : Nat} (hi : i < w.length) (hj : j < w.length) : S.getD i default * w.getD j default - S.getD j default * w.getD i default ≤ w.getD i default * w.getD j default * 4 + 7 * w.getD i default := by
  have a := h.bd hw hi
  have b := h.bd hw hj
  exact fair_num (K := K) a.1 b.1 (h.e i hi) (h.e j hj) a.2.1 b.2.2.1 (by rcases a.2.2.2 with x | x; · exact .inl x
                                                                          · exact .inr x.1) b.2.2.2
theorem FI.start {costs : List (List UInt8)} (hw : newOk w) : FI w (List.replicate w.length 0) 0 0 (fl w costs w.length 0) := by
  have hz : ∀ i, i < w.length → (List.replicate w.length (0 : Int)).getD i default = 0 := fun i hi => by rw [getD_eq (by simpa using hi)]; exact List.getElem_replicate ..
  refine ⟨fl_right hw (by omega), fl_len, by simp, fun i hi => by rw [fl_at hi]; rfl, fun i hi => ?_, fun x => absurd x (by show ¬ (false = true); decide), fun i hi => by rw [hz i hi]; exact ⟨Int.le_refl _, by omega⟩, fun i hi => ?_⟩
  · rw [fl_at hi]; unfold flL; simp [if_pos hi]
  · rw [fl_at hi, hz i hi]
    have : TT (fl w costs w.length 0) 0 i = 0 := if_neg (fun x => by
      have hp : pos (fl w costs w.length 0) = 0 := rfl
      rcases x with x | x
      · omega
      · exact absurd x.2 (by show ¬ (false = true); decide))
    rw [this, Int.mul_zero]; rfl
end Lk.S05
namespace Lk.S05
open Go Lk Lk.C
theorem wrap8 {m : Nat} (h : m < 256) : wrapI .u8 ((m : Int)) = (m : Int) := by
  simp only [wrapI_eq, IntKind.wrap, IntKind.signed, IntKind.bits]; simp; omega
section
variable {P : Program} {F : Nat → Nat}
end
end Lk.S05
namespace Lk.S05
open Go Lk Lk.C
/-- What the products in the sums of fairness are bounded by. -/
theorem mul_bd {x b : Int} {n : Nat} (h1 : 0 ≤ x) (h2 : x ≤ n) (h3 : 1 ≤ b ∧ b ≤ 8) : 0 ≤ x * b ∧ x * b ≤ 8 * n := by
  rcases c8 h3 with rfl | rfl | rfl | rfl | rfl | rfl | rfl | rfl <;> omega
section
variable {P : Program} {F : Nat → Nat}
set_option maxHeartbeats 8000000 in
set_option maxRecDepth 100000 in
theorem lanesFair_law (K : K05 P F) (kf : law05_filled_k P F) (hk : law05_LanesFair_k P F) (weights : List UInt8) (costs : List (List UInt8)) (steps : UInt8) (h1 : weights.length ≤ 9223372036854775807) (h2 : costs.length ≤ 9223372036854775807) (h3 : ∀ l ∈ costs, l.length ≤ 9223372036854775807) :
    FnOk P (F 87) [.one (slL 1 EU8.enc weights), .one (slL 1 u8s costs), .one (.int .u8 steps.toNat)] [.one (.im (.bool true))] := by
  refine fnOk K.k.m hk ?_
  have hw := wOf_ok (weights := weights)
  have hst := FI.start (costs := costs) hw
  have hw6 := hw.1
  repeat' first
    | (with_reducible first | refine NeedI.mk (fun h => h) ?_ | refine NeedI.mk (fun h => h.2) ?_ | refine NeedI.mk (fun h => h.1) ?_ | exact Done.mk | refine Both.mk (fun _ => ?_) (fun _ => ?_) | refine Both2.mk (fun _ => ?_) ?_ | refine Need.mk (by first | omega | with_reducible exact CEq.refl _ | (dsimp only; omega) | (dsimp only [rng]; omega) | (simp only [decide_eq_true_eq, decide_eq_false_iff_not, Bool.or_eq_true, Bool.and_eq_true, Bool.or_eq_false_iff, Int.toNat_natCast, addN_eq, cond_false, cond_true, rng] at *; omega) | exact ⟨rfl, rfl⟩) ?_)
    | ((with_reducible refine Need.mk ?_ ?_); exact CEq.refl _)
    | ((with_reducible fail_if_success first | refine LoopVC.mk ?_ | refine Need.mk ?_ ?_ | refine CallVC.mk ?_ | refine LoopEnd.mk ?_ | refine Out.mk ?_ | show False | refine NeedI.mk ?_ ?_); conv => whnf)
  refine CallVC.mk' (fun _ => filled_ok K kf weights costs h1 h2 h3) (fun _ => .cons (.one (CEq.refl _)) (.cons (.one (CEq.refl _)) .nil)) ?_
  generalize wOf weights = w at *
  generalize fl w costs w.length 0 = l0 at *
  repeat' first
    | (with_reducible first | refine NeedI.mk (fun h => h) ?_ | refine NeedI.mk (fun h => h.2) ?_ | refine NeedI.mk (fun h => h.1) ?_ | exact Done.mk | refine Both.mk (fun _ => ?_) (fun _ => ?_) | refine Both2.mk (fun _ => ?_) ?_ | refine Need.mk (by first | omega | with_reducible exact CEq.refl _ | (dsimp only; omega) | (dsimp only [rng]; omega) | (simp only [decide_eq_true_eq, decide_eq_false_iff_not, Bool.or_eq_true, Bool.and_eq_true, Bool.or_eq_false_iff, Int.toNat_natCast, addN_eq, cond_false, cond_true, rng] at *; omega) | exact ⟨rfl, rfl⟩) ?_)
    | ((with_reducible refine Need.mk ?_ ?_); exact CEq.refl _)
    | ((with_reducible fail_if_success first | refine LoopVC.mk ?_ | refine Need.mk ?_ ?_ | refine CallVC.mk ?_ | refine LoopEnd.mk ?_ | refine Out.mk ?_ | show False | refine NeedI.mk ?_ ?_); conv => whnf)
  · rename_i h; exact absurd h (by decide)
  obtain ⟨st, hst1, hst2⟩ : ∃ st : Nat, (steps.toNat : Int) % 101 = (st : Int) ∧ st ≤ 100 := ⟨steps.toNat % 101, by push_cast; rfl, by omega⟩
  refine LoopVC.inv (X := Ls × List Int × Nat) (fun x => (∃ K, FI w x.2.1 x.2.2 K x.1) ∧ x.2.2 ≤ st)
    (fun x => stL [(7, .va 7 0 0), (8, .c (slL 1 intE w)), (10, .os 28 0 1 0 w.length), (30, .c (.int .u8 st)), (31, .c (.int .u8 x.2.2))]
      [(7, vE [.c (slL 3 lnE x.1.list), .c (.int .i64 x.1.at_), .c (.bool x.1.given)]), (28, ⟨1, w.length, .dat fun r j => intE (x.2.1.getD r default) j, false, true⟩)]) (fun x => st - x.2.2) ⟨l0, List.replicate w.length 0, 0⟩ ⟨⟨0, hst⟩, Nat.zero_le _⟩ ?_ ?_
  · (refine Le.of ?_ ?_ <;> repeat' first | exact trivial | exact CEq.refl _ | exact rfl | exact cI (by push_cast; first | rfl | omega) | exact SubE.dat fun _ _ _ _ => CEq.refl _ | refine SubE.var2 ?_ ?_ | refine SubE.var1 ?_ | refine SubE.var3 ?_ ?_ ?_ | refine SubE.var4 ?_ ?_ ?_ ?_ | refine SubE.var5 ?_ ?_ ?_ ?_ ?_ | refine Exists.intro _ (And.intro rfl ?_) | refine And.intro ?_ ?_)
    exact ⟨rfl, rfl, id, id, fun i hi j hj => by
      have hi : i < w.length := hi
      obtain rfl : j = 0 := by have hj : j < 1 := hj; omega
      refine eI ?_
      rw [getD_eq (by simpa using hi)]; exact (List.getElem_replicate ..).symm⟩
  rintro Q hQ ⟨l, S, m⟩ ⟨I, hm⟩
  dsimp only at I hm
  dsimp only
  have htiny : Tiny l := by obtain ⟨K, I⟩ := I; exact I.r.tiny
  repeat' first
    | (with_reducible first | refine NeedI.mk (fun h => h) ?_ | refine NeedI.mk (fun h => h.2) ?_ | refine NeedI.mk (fun h => h.1) ?_ | exact Done.mk | refine Both.mk (fun _ => ?_) (fun _ => ?_) | refine Both2.mk (fun _ => ?_) ?_ | refine Need.mk (by first | omega | with_reducible exact CEq.refl _ | (dsimp only; omega) | (dsimp only [rng]; omega) | (simp only [decide_eq_true_eq, decide_eq_false_iff_not, Bool.or_eq_true, Bool.and_eq_true, Bool.or_eq_false_iff, Int.toNat_natCast, addN_eq, cond_false, cond_true, rng] at *; omega) | exact ⟨rfl, rfl⟩) ?_)
    | ((with_reducible refine Need.mk ?_ ?_); exact CEq.refl _)
    | ((with_reducible fail_if_success first | refine LoopVC.mk ?_ | refine Need.mk ?_ ?_ | refine CallVC.mk ?_ | refine LoopEnd.mk ?_ | refine Out.mk ?_ | show False | refine NeedI.mk ?_ ?_); conv => whnf)
  · rename_i h5
    have h5 : m < st := by have := of_decide_eq_true h5; omega
    obtain ⟨hok, hr', fs, hA, hAn⟩ := FI.next I (by omega)
    refine CallVC.mk' (fun _ => next_ok K.k l htiny) (fun _ => .cons ((.many fun j hj => by (rcases (show j = 0 ∨ j = 1 ∨ j = 2 by omega) with rfl | rfl | rfl <;> exact CEq.refl _))) .nil) ?_
    rw [decide_eq_true hok, hA]
    generalize nextC l = c at *
    generalize nextL l = l' at *
    obtain ⟨K, I'⟩ := fs.i
    have hc := fs.c
    have hsn := I'.sn
    rw [List.length_set] at hsn
    have hSb : 0 ≤ S.getD (pos l') default ∧ S.getD (pos l') default ≤ 8 * m := by obtain ⟨K0, I0⟩ := I; exact I0.b _ hAn
    have hset : ∀ i, i < w.length → (S.set (pos l') (S.getD (pos l') default + c)).getD i default = if i = pos l' then S.getD (pos l') default + c else S.getD i default := fun i hi => setL_getD (by rw [hsn]; exact hi)
    have hsp := hset (pos l') hAn
    generalize hpp : pos l' = p at *
    repeat' first
      | (with_reducible first | refine NeedI.mk (fun h => h) ?_ | refine NeedI.mk (fun h => h.2) ?_ | refine NeedI.mk (fun h => h.1) ?_ | exact Done.mk | refine Both.mk (fun _ => ?_) (fun _ => ?_) | refine Both2.mk (fun _ => ?_) ?_ | refine Need.mk (by first | omega | with_reducible exact CEq.refl _ | (dsimp only; omega) | (simp only [addN_eq]; omega) | exact ⟨rfl, rfl⟩ | (simp only [rng]; omega)) ?_)
      | ((with_reducible fail_if_success first | refine LoopVC.mk ?_ | refine Need.mk ?_ ?_ | refine CallVC.mk ?_ | refine LoopEnd.mk ?_ | refine Out.mk ?_ | show False | refine NeedI.mk ?_ ?_); conv => whnf)
    · exfalso
      rename_i h
      simp only [Bool.not_true, Bool.false_or, Bool.or_eq_true, decide_eq_true_eq, Bool.not_eq_true', decide_eq_false_iff_not, not_true, or_false] at h; omega
    · refine Need.mk (by show rng .i64 (S.getD p default + c); simp only [rng]; omega) ?_
      have hd2 : ∀ r, r < w.length → ∀ j, j < 1 → CEq (updC (fun r j => intE (S.getD r default) j) p 0 (.int .i64 (S.getD p default + c)) r j) (intE ((S.set p (S.getD p default + c)).getD r default) j) := fun r hr j hj => by
        obtain rfl : j = 0 := by omega
        rw [updC_at, hset r hr]
        by_cases e : r = p
        · rw [if_pos ⟨e, rfl⟩, if_pos e]; exact CEq.refl _
        · rw [if_neg (fun x => e x.1), if_neg e]; exact CEq.refl _
      clear hset hsp fs hsn hSb
      generalize hS2 : S.set p (S.getD p default + c) = S2 at *
      repeat' first
        | (with_reducible first | refine NeedI.mk (fun h => h) ?_ | refine NeedI.mk (fun h => h.2) ?_ | refine NeedI.mk (fun h => h.1) ?_ | exact Done.mk | refine Both.mk (fun _ => ?_) (fun _ => ?_) | refine Both2.mk (fun _ => ?_) ?_ | refine Need.mk (by first | omega | with_reducible exact CEq.refl _ | (dsimp only; omega) | (simp only [addN_eq]; omega) | exact ⟨rfl, rfl⟩ | (intros; simp only [Int.toNat_natCast, addN_eq, Nat.zero_add, rng]; omega)) ?_)
        | ((with_reducible fail_if_success first | refine LoopVC.mk ?_ | refine Need.mk ?_ ?_ | refine CallVC.mk ?_ | refine LoopEnd.mk ?_ | refine Out.mk ?_ | show False | refine NeedI.mk ?_ ?_); conv => whnf)
      refine LoopVC.inv (fun i : Nat => i ≤ w.length) (fun i => stL [(7, .va 7 0 0), (8, .c (slL 1 intE w)), (10, .os 28 0 1 0 w.length), (30, .c (.int .u8 st)), (31, .c (.int .u8 m)), (69, .c (.int .i64 w.length)), (70, .c (.int .i64 i))]
        [(7, vE [.c (slL 3 lnE l'.list), .c (.int .i64 l'.at_), .c (.bool l'.given)]), (28, ⟨1, w.length, .dat fun r j => intE (S2.getD r default) j, false, true⟩)]) (fun i => w.length - i) 0 (Nat.zero_le _) ?_ ?_
      · (refine Le.of ?_ ?_ <;> repeat' first | exact trivial | exact CEq.refl _ | exact rfl | exact cI (by push_cast; first | rfl | omega) | exact SubE.dat fun _ _ _ _ => CEq.refl _ | refine SubE.var2 ?_ ?_ | refine SubE.var1 ?_ | refine SubE.var3 ?_ ?_ ?_ | refine SubE.var4 ?_ ?_ ?_ ?_ | refine SubE.var5 ?_ ?_ ?_ ?_ ?_ | refine Exists.intro _ (And.intro rfl ?_) | refine And.intro ?_ ?_)
        exact SubE.dat hd2
      rintro Q1 hQ1 i hi
      repeat' first
        | (with_reducible first | refine NeedI.mk (fun h => h) ?_ | refine NeedI.mk (fun h => h.2) ?_ | refine NeedI.mk (fun h => h.1) ?_ | exact Done.mk | refine Both.mk (fun _ => ?_) (fun _ => ?_) | refine Both2.mk (fun _ => ?_) ?_ | refine Need.mk (by first | omega | with_reducible exact CEq.refl _ | (dsimp only; omega) | (dsimp only [rng]; omega) | (simp only [decide_eq_true_eq, decide_eq_false_iff_not, Bool.or_eq_true, Bool.and_eq_true, Bool.or_eq_false_iff, Int.toNat_natCast, addN_eq, cond_false, cond_true, rng] at *; omega) | exact ⟨rfl, rfl⟩) ?_)
        | ((with_reducible refine Need.mk ?_ ?_); exact CEq.refl _)
        | ((with_reducible fail_if_success first | refine LoopVC.mk ?_ | refine Need.mk ?_ ?_ | refine CallVC.mk ?_ | refine LoopEnd.mk ?_ | refine Out.mk ?_ | show False | refine NeedI.mk ?_ ?_); conv => whnf)
      · rename_i hil
        have hil : i < w.length := by have := of_decide_eq_true hil; omega
        have bi := (I'.bd hw hil).1
        have si := I'.b i hil
        refine LoopVC.inv (fun j : Nat => j ≤ w.length) (fun j => stL [(7, .va 7 0 0), (8, .c (slL 1 intE w)), (10, .os 28 0 1 0 w.length), (15, .c (.int .i64 i)), (30, .c (.int .u8 st)), (31, .c (.int .u8 m)), (69, .c (.int .i64 w.length)), (70, .c (.int .i64 i)), (74, .c (.int .i64 w.length)), (75, .c (.int .i64 j))]
          [(7, vE [.c (slL 3 lnE l'.list), .c (.int .i64 l'.at_), .c (.bool l'.given)]), (28, ⟨1, w.length, .dat fun r j => intE (S2.getD r default) j, false, true⟩)]) (fun j => w.length - j) 0 (Nat.zero_le _) ?_ ?_
        · (refine Le.of ?_ ?_ <;> repeat' first | exact trivial | exact CEq.refl _ | exact rfl | exact cI (by push_cast; first | rfl | omega) | exact SubE.dat fun _ _ _ _ => CEq.refl _ | refine SubE.var2 ?_ ?_ | refine SubE.var1 ?_ | refine SubE.var3 ?_ ?_ ?_ | refine SubE.var4 ?_ ?_ ?_ ?_ | refine SubE.var5 ?_ ?_ ?_ ?_ ?_ | refine Exists.intro _ (And.intro rfl ?_) | refine And.intro ?_ ?_)
        rintro Q2 hQ2 j hj
        have bj : j < w.length → (1 ≤ w.getD j default ∧ w.getD j default ≤ 8) ∧ 0 ≤ S2.getD j default ∧ S2.getD j default ≤ 8 * (m + 1 : Nat) ∧ S2.getD i default * w.getD j default - S2.getD j default * w.getD i default ≤ w.getD i default * w.getD j default * 4 + 7 * w.getD i default := fun hj => ⟨(I'.bd hw hj).1, (I'.b j hj).1, (I'.b j hj).2, I'.fair hw hil hj⟩
        have hm101 : 8 * (m + 1) ≤ 808 := by omega
        repeat' first
          | (with_reducible first | refine NeedI.mk (fun h => h) ?_ | refine NeedI.mk (fun h => h.2) ?_ | refine NeedI.mk (fun h => h.1) ?_ | exact Done.mk | refine Both.mk (fun _ => ?_) (fun _ => ?_) | refine Both2.mk (fun _ => ?_) ?_ | refine Need.mk (by first | omega | with_reducible exact CEq.refl _ | (dsimp only; omega) | (dsimp only [rng]; omega) | (simp only [decide_eq_true_eq, decide_eq_false_iff_not, Bool.or_eq_true, Bool.and_eq_true, Bool.or_eq_false_iff, Int.toNat_natCast, addN_eq, cond_false, cond_true, rng] at *; omega) | exact ⟨rfl, rfl⟩) ?_)
          | ((with_reducible refine Need.mk ?_ ?_); exact CEq.refl _)
          | ((with_reducible fail_if_success first | refine LoopVC.mk ?_ | refine Need.mk ?_ ?_ | refine CallVC.mk ?_ | refine LoopEnd.mk ?_ | refine Out.mk ?_ | show False | refine NeedI.mk ?_ ?_); conv => whnf)
        · rename_i hjl
          have hjl : j < w.length := by have := of_decide_eq_true hjl; omega
          obtain ⟨bj1, bj2, bj3, bf⟩ := bj hjl
          have m1 := mul_bd (n := 808) si.1 (by omega) bj1
          have m2 := mul_bd (n := 808) bj2 (by omega) bi
          have m3 := mul_bd (n := 8) (by omega) bi.2 bj1
          refine Need.mk (by show rng .i64 (S2.getD i default * w.getD j default); simp only [rng]; omega) ?_
          repeat' first
            | (with_reducible first | refine NeedI.mk (fun h => h) ?_ | refine NeedI.mk (fun h => h.2) ?_ | refine NeedI.mk (fun h => h.1) ?_ | exact Done.mk | refine Both.mk (fun _ => ?_) (fun _ => ?_) | refine Both2.mk (fun _ => ?_) ?_ | refine Need.mk (by first | omega | with_reducible exact CEq.refl _ | (dsimp only; omega) | (simp only [addN_eq]; omega) | exact ⟨rfl, rfl⟩ | (simp only [Int.toNat_natCast, addN_eq, Nat.zero_add, rng]; omega)) ?_)
            | ((with_reducible fail_if_success first | refine LoopVC.mk ?_ | refine Need.mk ?_ ?_ | refine CallVC.mk ?_ | refine LoopEnd.mk ?_ | refine Out.mk ?_ | show False | refine NeedI.mk ?_ ?_); conv => whnf)
          · exfalso
            rename_i h
            simp only [Int.toNat_natCast, addN_eq, Nat.zero_add, decide_eq_true_eq] at h
            omega
          · refine LoopEnd.mk ⟨j + 1, by omega, by omega, ?_⟩
            (refine Le.of ?_ ?_ <;> repeat' first | exact trivial | exact CEq.refl _ | exact rfl | exact cI (by push_cast; first | rfl | omega) | exact SubE.dat fun _ _ _ _ => CEq.refl _ | refine SubE.var2 ?_ ?_ | refine SubE.var1 ?_ | refine SubE.var3 ?_ ?_ ?_ | refine SubE.var4 ?_ ?_ ?_ ?_ | refine SubE.var5 ?_ ?_ ?_ ?_ ?_ | refine Exists.intro _ (And.intro rfl ?_) | refine And.intro ?_ ?_)
        · refine Out.mk (hQ2 _ _ ?_)
          repeat' first
            | (with_reducible first | refine NeedI.mk (fun h => h) ?_ | refine NeedI.mk (fun h => h.2) ?_ | refine NeedI.mk (fun h => h.1) ?_ | exact Done.mk | refine Both.mk (fun _ => ?_) (fun _ => ?_) | refine Both2.mk (fun _ => ?_) ?_ | refine Need.mk (by first | omega | with_reducible exact CEq.refl _ | (dsimp only; omega) | (dsimp only [rng]; omega) | (simp only [decide_eq_true_eq, decide_eq_false_iff_not, Bool.or_eq_true, Bool.and_eq_true, Bool.or_eq_false_iff, Int.toNat_natCast, addN_eq, cond_false, cond_true, rng] at *; omega) | exact ⟨rfl, rfl⟩) ?_)
            | ((with_reducible refine Need.mk ?_ ?_); exact CEq.refl _)
            | ((with_reducible fail_if_success first | refine LoopVC.mk ?_ | refine Need.mk ?_ ?_ | refine CallVC.mk ?_ | refine LoopEnd.mk ?_ | refine Out.mk ?_ | show False | refine NeedI.mk ?_ ?_); conv => whnf)
          refine LoopEnd.mk ⟨i + 1, by omega, by omega, ?_⟩
          (refine Le.of ?_ ?_ <;> repeat' first | exact trivial | exact CEq.refl _ | exact rfl | exact cI (by push_cast; first | rfl | omega) | exact SubE.dat fun _ _ _ _ => CEq.refl _ | refine SubE.var2 ?_ ?_ | refine SubE.var1 ?_ | refine SubE.var3 ?_ ?_ ?_ | refine SubE.var4 ?_ ?_ ?_ ?_ | refine SubE.var5 ?_ ?_ ?_ ?_ ?_ | refine Exists.intro _ (And.intro rfl ?_) | refine And.intro ?_ ?_)
      · refine Out.mk (hQ1 _ _ ?_)
        repeat' first
          | (with_reducible first | refine NeedI.mk (fun h => h) ?_ | refine NeedI.mk (fun h => h.2) ?_ | refine NeedI.mk (fun h => h.1) ?_ | exact Done.mk | refine Both.mk (fun _ => ?_) (fun _ => ?_) | refine Both2.mk (fun _ => ?_) ?_ | refine Need.mk (by first | omega | with_reducible exact CEq.refl _ | (dsimp only; omega) | (dsimp only [rng]; omega) | (simp only [decide_eq_true_eq, decide_eq_false_iff_not, Bool.or_eq_true, Bool.and_eq_true, Bool.or_eq_false_iff, Int.toNat_natCast, addN_eq, cond_false, cond_true, rng] at *; omega) | exact ⟨rfl, rfl⟩) ?_)
          | ((with_reducible refine Need.mk ?_ ?_); exact CEq.refl _)
          | ((with_reducible fail_if_success first | refine LoopVC.mk ?_ | refine Need.mk ?_ ?_ | refine CallVC.mk ?_ | refine LoopEnd.mk ?_ | refine Out.mk ?_ | show False | refine NeedI.mk ?_ ?_); conv => whnf)
        refine LoopEnd.mk ⟨(l', S2, m + 1), ⟨⟨K, I'⟩, by show m + 1 ≤ st; omega⟩, by show st - (m + 1) < st - m; omega, ?_⟩
        rw [show wrapI .u8 ((m : Int) + 1) = ((m + 1 : Nat) : Int) from wrap8 (m := m + 1) (by omega)]
        (refine Le.of ?_ ?_ <;> repeat' first | exact trivial | exact CEq.refl _ | exact rfl | exact cI (by push_cast; first | rfl | omega) | exact SubE.dat fun _ _ _ _ => CEq.refl _ | refine SubE.var2 ?_ ?_ | refine SubE.var1 ?_ | refine SubE.var3 ?_ ?_ ?_ | refine SubE.var4 ?_ ?_ ?_ ?_ | refine SubE.var5 ?_ ?_ ?_ ?_ ?_ | refine Exists.intro _ (And.intro rfl ?_) | refine And.intro ?_ ?_)
  · refine Out.mk (hQ _ _ ?_)
    repeat' first
      | (with_reducible first | refine NeedI.mk (fun h => h) ?_ | refine NeedI.mk (fun h => h.2) ?_ | refine NeedI.mk (fun h => h.1) ?_ | exact Done.mk | refine Both.mk (fun _ => ?_) (fun _ => ?_) | refine Both2.mk (fun _ => ?_) ?_ | refine Need.mk (by first | omega | with_reducible exact CEq.refl _ | (dsimp only; omega) | (dsimp only [rng]; omega) | (simp only [decide_eq_true_eq, decide_eq_false_iff_not, Bool.or_eq_true, Bool.and_eq_true, Bool.or_eq_false_iff, Int.toNat_natCast, addN_eq, cond_false, cond_true, rng] at *; omega) | exact ⟨rfl, rfl⟩) ?_)
      | ((with_reducible refine Need.mk ?_ ?_); exact CEq.refl _)
      | ((with_reducible fail_if_success first | refine LoopVC.mk ?_ | refine Need.mk ?_ ?_ | refine CallVC.mk ?_ | refine LoopEnd.mk ?_ | refine Out.mk ?_ | show False | refine NeedI.mk ?_ ?_); conv => whnf)
    refine CallVC.mk' (fun _ => awake_ok K) (fun _ => .nil) ?_
    repeat' first
      | (with_reducible first | refine NeedI.mk (fun h => h) ?_ | refine NeedI.mk (fun h => h.2) ?_ | refine NeedI.mk (fun h => h.1) ?_ | exact Done.mk | refine Both.mk (fun _ => ?_) (fun _ => ?_) | refine Both2.mk (fun _ => ?_) ?_ | refine Need.mk (by first | omega | with_reducible exact CEq.refl _ | (dsimp only; omega) | (dsimp only [rng]; omega) | (simp only [decide_eq_true_eq, decide_eq_false_iff_not, Bool.or_eq_true, Bool.and_eq_true, Bool.or_eq_false_iff, Int.toNat_natCast, addN_eq, cond_false, cond_true, rng] at *; omega) | exact ⟨rfl, rfl⟩) ?_)
      | ((with_reducible refine Need.mk ?_ ?_); exact CEq.refl _)
      | ((with_reducible fail_if_success first | refine LoopVC.mk ?_ | refine Need.mk ?_ ?_ | refine CallVC.mk ?_ | refine LoopEnd.mk ?_ | refine Out.mk ?_ | show False | refine NeedI.mk ?_ ?_); conv => whnf)
end
end Lk.S05
namespace Lk.S05
open Go Lk Lk.C
/-- What was served since. -/
structure Since (w S0 S D : List Int) (m : Nat) : Prop where
  n : D.length = w.length
  e : ∀ i, i < w.length → D.getD i default + S0.getD i default = S.getD i default
  b : ∀ i, i < w.length → 0 ≤ D.getD i default ∧ D.getD i default ≤ 8 * m
theorem Since.step {w S0 S D : List Int} {m p : Nat} {c : Int} (h : Since w S0 S D m) (hs : S.length = w.length) (hc : 1 ≤ c ∧ c ≤ 8) : Since w S0 (S.set p (S.getD p default + c)) (D.set p (D.getD p default + c)) (m + 1) := by
  have hs1 : ∀ i, i < w.length → (S.set p (S.getD p default + c)).getD i default = if i = p then S.getD p default + c else S.getD i default := fun i hi => setL_getD (by rw [hs]; exact hi)
  have hs2 : ∀ i, i < w.length → (D.set p (D.getD p default + c)).getD i default = if i = p then D.getD p default + c else D.getD i default := fun i hi => setL_getD (by rw [h.n]; exact hi)
  refine ⟨by rw [List.length_set]; exact h.n, fun i hi => ?_, fun i hi => ?_⟩
  · rw [hs1 i hi, hs2 i hi]
    have := h.e i hi
    by_cases e : i = p
    · rw [if_pos e, if_pos e]; subst e; omega
    · rw [if_neg e, if_neg e]; exact this
  · rw [hs2 i hi]
    have := h.b i hi
    by_cases e : i = p
    · rw [if_pos e]; rw [e] at this; omega
    · rw [if_neg e]; omega
section
variable {P : Program} {F : Nat → Nat}
set_option maxHeartbeats 8000000 in
set_option maxRecDepth 100000 in
theorem lanesStretch_law (K : K05 P F) (kf : law05_filled_k P F) (hk : law05_LanesStretch_k P F) (weights : List UInt8) (costs : List (List UInt8)) (ahead steps : UInt8) (h1 : weights.length ≤ 9223372036854775807) (h2 : costs.length ≤ 9223372036854775807) (h3 : ∀ l ∈ costs, l.length ≤ 9223372036854775807) :
    FnOk P (F 88) [.one (slL 1 EU8.enc weights), .one (slL 1 u8s costs), .one (.int .u8 ahead.toNat), .one (.int .u8 steps.toNat)] [.one (.im (.bool true))] := by
  refine fnOk K.k.m hk ?_
  have hw := wOf_ok (weights := weights)
  have hst := FI.start (costs := costs) hw
  have hw6 := hw.1
  repeat' first
    | (with_reducible first | refine NeedI.mk (fun h => h) ?_ | refine NeedI.mk (fun h => h.2) ?_ | refine NeedI.mk (fun h => h.1) ?_ | exact Done.mk | refine Both.mk (fun _ => ?_) (fun _ => ?_) | refine Both2.mk (fun _ => ?_) ?_ | refine Need.mk (by first | omega | with_reducible exact CEq.refl _ | (dsimp only; omega) | (dsimp only [rng]; omega) | (simp only [decide_eq_true_eq, decide_eq_false_iff_not, Bool.or_eq_true, Bool.and_eq_true, Bool.or_eq_false_iff, Int.toNat_natCast, addN_eq, cond_false, cond_true, rng] at *; omega) | exact ⟨rfl, rfl⟩) ?_)
    | ((with_reducible refine Need.mk ?_ ?_); exact CEq.refl _)
    | ((with_reducible fail_if_success first | refine LoopVC.mk ?_ | refine Need.mk ?_ ?_ | refine CallVC.mk ?_ | refine LoopEnd.mk ?_ | refine Out.mk ?_ | show False | refine NeedI.mk ?_ ?_); conv => whnf)
  refine CallVC.mk' (fun _ => filled_ok K kf weights costs h1 h2 h3) (fun _ => .cons (.one (CEq.refl _)) (.cons (.one (CEq.refl _)) .nil)) ?_
  generalize wOf weights = w at *
  generalize fl w costs w.length 0 = l0 at *
  repeat' first
    | (with_reducible first | refine NeedI.mk (fun h => h) ?_ | refine NeedI.mk (fun h => h.2) ?_ | refine NeedI.mk (fun h => h.1) ?_ | exact Done.mk | refine Both.mk (fun _ => ?_) (fun _ => ?_) | refine Both2.mk (fun _ => ?_) ?_ | refine Need.mk (by first | omega | with_reducible exact CEq.refl _ | (dsimp only; omega) | (dsimp only [rng]; omega) | (simp only [decide_eq_true_eq, decide_eq_false_iff_not, Bool.or_eq_true, Bool.and_eq_true, Bool.or_eq_false_iff, Int.toNat_natCast, addN_eq, cond_false, cond_true, rng] at *; omega) | exact ⟨rfl, rfl⟩) ?_)
    | ((with_reducible refine Need.mk ?_ ?_); exact CEq.refl _)
    | ((with_reducible fail_if_success first | refine LoopVC.mk ?_ | refine Need.mk ?_ ?_ | refine CallVC.mk ?_ | refine LoopEnd.mk ?_ | refine Out.mk ?_ | show False | refine NeedI.mk ?_ ?_); conv => whnf)
  · rename_i h; exact absurd h (by decide)
  obtain ⟨ad, ad1, ad2⟩ : ∃ st : Nat, (ahead.toNat : Int) % 61 = (st : Int) ∧ st ≤ 60 := ⟨ahead.toNat % 61, by push_cast; rfl, by omega⟩
  obtain ⟨st, hst1, hst2⟩ : ∃ st : Nat, (steps.toNat : Int) % 61 = (st : Int) ∧ st ≤ 60 := ⟨steps.toNat % 61, by push_cast; rfl, by omega⟩
  refine LoopVC.inv (X := Ls × List Int × Nat) (fun x => (∃ K, FI w x.2.1 x.2.2 K x.1) ∧ x.2.2 ≤ ad)
    (fun x => stL [(3, .c (.int .u8 steps.toNat)), (9, .va 9 0 0), (10, .c (slL 1 intE w)), (33, .c (.int .u8 ad)), (34, .c (.int .u8 x.2.2))]
      [(9, vE [.c (slL 3 lnE x.1.list), .c (.int .i64 x.1.at_), .c (.bool x.1.given)])]) (fun x => ad - x.2.2) ⟨l0, List.replicate w.length 0, 0⟩ ⟨⟨0, hst⟩, Nat.zero_le _⟩ ?_ ?_
  · (refine Le.of ?_ ?_ <;> repeat' first | exact trivial | exact CEq.refl _ | exact rfl | exact cI (by push_cast; first | rfl | omega) | exact SubE.dat fun _ _ _ _ => CEq.refl _ | refine SubE.var2 ?_ ?_ | refine SubE.var1 ?_ | refine SubE.var3 ?_ ?_ ?_ | refine SubE.var4 ?_ ?_ ?_ ?_ | refine SubE.var5 ?_ ?_ ?_ ?_ ?_ | refine Exists.intro _ (And.intro rfl ?_) | refine And.intro ?_ ?_)
  rintro Q hQ ⟨l, S, m⟩ ⟨I, hm⟩
  dsimp only at I hm
  dsimp only
  have htiny : Tiny l := by obtain ⟨K, I⟩ := I; exact I.r.tiny
  repeat' first
    | (with_reducible first | refine NeedI.mk (fun h => h) ?_ | refine NeedI.mk (fun h => h.2) ?_ | refine NeedI.mk (fun h => h.1) ?_ | exact Done.mk | refine Both.mk (fun _ => ?_) (fun _ => ?_) | refine Both2.mk (fun _ => ?_) ?_ | refine Need.mk (by first | omega | with_reducible exact CEq.refl _ | (dsimp only; omega) | (dsimp only [rng]; omega) | (simp only [decide_eq_true_eq, decide_eq_false_iff_not, Bool.or_eq_true, Bool.and_eq_true, Bool.or_eq_false_iff, Int.toNat_natCast, addN_eq, cond_false, cond_true, rng] at *; omega) | exact ⟨rfl, rfl⟩) ?_)
    | ((with_reducible refine Need.mk ?_ ?_); exact CEq.refl _)
    | ((with_reducible fail_if_success first | refine LoopVC.mk ?_ | refine Need.mk ?_ ?_ | refine CallVC.mk ?_ | refine LoopEnd.mk ?_ | refine Out.mk ?_ | show False | refine NeedI.mk ?_ ?_); conv => whnf)
  · rename_i h5
    have h5 : m < ad := by have := of_decide_eq_true h5; omega
    obtain ⟨hok, hr', fs, hA, hAn⟩ := FI.next I (by omega)
    refine CallVC.mk' (fun _ => next_ok K.k l htiny) (fun _ => .cons ((.many fun j hj => by (rcases (show j = 0 ∨ j = 1 ∨ j = 2 by omega) with rfl | rfl | rfl <;> exact CEq.refl _))) .nil) ?_
    rw [decide_eq_true hok, hA]
    generalize nextC l = c at *
    generalize nextL l = l' at *
    obtain ⟨K, I'⟩ := fs.i
    generalize hS2 : S.set (pos l') (S.getD (pos l') default + c) = S2 at *
    generalize hpp : pos l' = p at *
    repeat' first
      | (with_reducible first | refine NeedI.mk (fun h => h) ?_ | refine NeedI.mk (fun h => h.2) ?_ | refine NeedI.mk (fun h => h.1) ?_ | exact Done.mk | refine Both.mk (fun _ => ?_) (fun _ => ?_) | refine Both2.mk (fun _ => ?_) ?_ | refine Need.mk (by first | omega | with_reducible exact CEq.refl _ | (dsimp only; omega) | (dsimp only [rng]; omega) | (simp only [decide_eq_true_eq, decide_eq_false_iff_not, Bool.or_eq_true, Bool.and_eq_true, Bool.or_eq_false_iff, Int.toNat_natCast, addN_eq, cond_false, cond_true, rng] at *; omega) | exact ⟨rfl, rfl⟩) ?_)
      | ((with_reducible refine Need.mk ?_ ?_); exact CEq.refl _)
      | ((with_reducible fail_if_success first | refine LoopVC.mk ?_ | refine Need.mk ?_ ?_ | refine CallVC.mk ?_ | refine LoopEnd.mk ?_ | refine Out.mk ?_ | show False | refine NeedI.mk ?_ ?_); conv => whnf)
    · rename_i h; exact absurd h (by decide)
    refine LoopEnd.mk ⟨(l', S2, m + 1), ⟨⟨K, I'⟩, by show m + 1 ≤ ad; omega⟩, by show ad - (m + 1) < ad - m; omega, ?_⟩
    rw [show wrapI .u8 ((m : Int) + 1) = ((m + 1 : Nat) : Int) from wrap8 (m := m + 1) (by omega)]
    (refine Le.of ?_ ?_ <;> repeat' first | exact trivial | exact CEq.refl _ | exact rfl | exact cI (by push_cast; first | rfl | omega) | exact SubE.dat fun _ _ _ _ => CEq.refl _ | refine SubE.var2 ?_ ?_ | refine SubE.var1 ?_ | refine SubE.var3 ?_ ?_ ?_ | refine SubE.var4 ?_ ?_ ?_ ?_ | refine SubE.var5 ?_ ?_ ?_ ?_ ?_ | refine Exists.intro _ (And.intro rfl ?_) | refine And.intro ?_ ?_)
  refine Out.mk (hQ _ _ ?_)
  clear hQ Q
  obtain ⟨K0, I0⟩ := I
  generalize hm0 : m = m0 at *
  generalize l = la at *
  generalize S = S0 at *
  repeat' first
    | (with_reducible first | refine NeedI.mk (fun h => h) ?_ | refine NeedI.mk (fun h => h.2) ?_ | refine NeedI.mk (fun h => h.1) ?_ | exact Done.mk | refine Both.mk (fun _ => ?_) (fun _ => ?_) | refine Both2.mk (fun _ => ?_) ?_ | refine Need.mk (by first | omega | with_reducible exact CEq.refl _ | (dsimp only; omega) | (dsimp only [rng]; omega) | (simp only [decide_eq_true_eq, decide_eq_false_iff_not, Bool.or_eq_true, Bool.and_eq_true, Bool.or_eq_false_iff, Int.toNat_natCast, addN_eq, cond_false, cond_true, rng] at *; omega) | exact ⟨rfl, rfl⟩) ?_)
    | ((with_reducible refine Need.mk ?_ ?_); exact CEq.refl _)
    | ((with_reducible fail_if_success first | refine LoopVC.mk ?_ | refine Need.mk ?_ ?_ | refine CallVC.mk ?_ | refine LoopEnd.mk ?_ | refine Out.mk ?_ | show False | refine NeedI.mk ?_ ?_); conv => whnf)
  refine LoopVC.inv (X := Ls × List Int × List Int × Nat) (fun x => (∃ K, FI w x.2.1 (m0 + x.2.2.2) K x.1) ∧ Since w S0 x.2.1 x.2.2.1 x.2.2.2 ∧ x.2.2.2 ≤ st)
    (fun x => stL [(9, .va 9 0 0), (10, .c (slL 1 intE w)), (16, .os 49 0 1 0 w.length), (51, .c (.int .u8 st)), (52, .c (.int .u8 x.2.2.2))]
      [(9, vE [.c (slL 3 lnE x.1.list), .c (.int .i64 x.1.at_), .c (.bool x.1.given)]), (49, ⟨1, w.length, .dat fun r j => intE (x.2.2.1.getD r default) j, false, true⟩)]) (fun x => st - x.2.2.2) ⟨la, S0, List.replicate w.length 0, 0⟩ ⟨⟨K0, I0⟩, ⟨by simp, fun i hi => by (show (List.replicate w.length (0 : Int)).getD i default + S0.getD i default = S0.getD i default); rw [getD_eq (by simpa using hi), List.getElem_replicate]; omega, fun i hi => by rw [getD_eq (by simpa using hi), List.getElem_replicate]; exact ⟨Int.le_refl _, by omega⟩⟩, Nat.zero_le _⟩ ?_ ?_
  · (refine Le.of ?_ ?_ <;> repeat' first | exact trivial | exact CEq.refl _ | exact rfl | exact cI (by push_cast; first | rfl | omega) | exact SubE.dat fun _ _ _ _ => CEq.refl _ | refine SubE.var2 ?_ ?_ | refine SubE.var1 ?_ | refine SubE.var3 ?_ ?_ ?_ | refine SubE.var4 ?_ ?_ ?_ ?_ | refine SubE.var5 ?_ ?_ ?_ ?_ ?_ | refine Exists.intro _ (And.intro rfl ?_) | refine And.intro ?_ ?_)
    exact ⟨rfl, rfl, id, id, fun i hi j hj => by
      have hi : i < w.length := hi
      obtain rfl : j = 0 := by have hj : j < 1 := hj; omega
      refine eI ?_
      rw [getD_eq (by simpa using hi)]; exact (List.getElem_replicate ..).symm⟩
  rintro Q hQ ⟨l, S, D, m⟩ ⟨I, J, hm⟩
  dsimp only at I hm J
  dsimp only
  have htiny : Tiny l := by obtain ⟨K, I⟩ := I; exact I.r.tiny
  have hSn : S.length = w.length := by obtain ⟨K, I⟩ := I; exact I.sn
  repeat' first
    | (with_reducible first | refine NeedI.mk (fun h => h) ?_ | refine NeedI.mk (fun h => h.2) ?_ | refine NeedI.mk (fun h => h.1) ?_ | exact Done.mk | refine Both.mk (fun _ => ?_) (fun _ => ?_) | refine Both2.mk (fun _ => ?_) ?_ | refine Need.mk (by first | omega | with_reducible exact CEq.refl _ | (dsimp only; omega) | (dsimp only [rng]; omega) | (simp only [decide_eq_true_eq, decide_eq_false_iff_not, Bool.or_eq_true, Bool.and_eq_true, Bool.or_eq_false_iff, Int.toNat_natCast, addN_eq, cond_false, cond_true, rng] at *; omega) | exact ⟨rfl, rfl⟩) ?_)
    | ((with_reducible refine Need.mk ?_ ?_); exact CEq.refl _)
    | ((with_reducible fail_if_success first | refine LoopVC.mk ?_ | refine Need.mk ?_ ?_ | refine CallVC.mk ?_ | refine LoopEnd.mk ?_ | refine Out.mk ?_ | show False | refine NeedI.mk ?_ ?_); conv => whnf)
  · rename_i h5
    have h5 : m < st := by have := of_decide_eq_true h5; omega
    obtain ⟨hok, hr', fs, hA, hAn⟩ := FI.next I (by omega)
    refine CallVC.mk' (fun _ => next_ok K.k l htiny) (fun _ => .cons ((.many fun j hj => by (rcases (show j = 0 ∨ j = 1 ∨ j = 2 by omega) with rfl | rfl | rfl <;> exact CEq.refl _))) .nil) ?_
    rw [decide_eq_true hok, hA]
    generalize nextC l = c at *
    generalize nextL l = l' at *
    obtain ⟨K, I'⟩ := fs.i
    have hc := fs.c
    have J2 := J.step (p := pos l') hSn hc
    have hDb := J.b _ hAn
    have hset : ∀ i, i < w.length → (D.set (pos l') (D.getD (pos l') default + c)).getD i default = if i = pos l' then D.getD (pos l') default + c else D.getD i default := fun i hi => setL_getD (by rw [J.n]; exact hi)
    generalize hpp : pos l' = p at *
    repeat' first
      | (with_reducible first | refine NeedI.mk (fun h => h) ?_ | refine NeedI.mk (fun h => h.2) ?_ | refine NeedI.mk (fun h => h.1) ?_ | exact Done.mk | refine Both.mk (fun _ => ?_) (fun _ => ?_) | refine Both2.mk (fun _ => ?_) ?_ | refine Need.mk (by first | omega | with_reducible exact CEq.refl _ | (dsimp only; omega) | (simp only [addN_eq]; omega) | exact ⟨rfl, rfl⟩ | (simp only [rng]; omega)) ?_)
      | ((with_reducible fail_if_success first | refine LoopVC.mk ?_ | refine Need.mk ?_ ?_ | refine CallVC.mk ?_ | refine LoopEnd.mk ?_ | refine Out.mk ?_ | show False | refine NeedI.mk ?_ ?_); conv => whnf)
    · exfalso
      rename_i h
      simp only [Bool.not_true, Bool.false_or, Bool.or_eq_true, decide_eq_true_eq, Bool.not_eq_true', decide_eq_false_iff_not, not_true, or_false] at h; omega
    · refine Need.mk (by show rng .i64 (D.getD p default + c); simp only [rng]; omega) ?_
      have hd2 : ∀ r, r < w.length → ∀ j, j < 1 → CEq (updC (fun r j => intE (D.getD r default) j) p 0 (.int .i64 (D.getD p default + c)) r j) (intE ((D.set p (D.getD p default + c)).getD r default) j) := fun r hr j hj => by
        obtain rfl : j = 0 := by omega
        rw [updC_at, hset r hr]
        by_cases e : r = p
        · rw [if_pos ⟨e, rfl⟩, if_pos e]; exact CEq.refl _
        · rw [if_neg (fun x => e x.1), if_neg e]; exact CEq.refl _
      clear hset fs hDb
      generalize hS2 : D.set p (D.getD p default + c) = D2 at *
      generalize hS3 : S.set p (S.getD p default + c) = S2 at *
      repeat' first
        | (with_reducible first | refine NeedI.mk (fun h => h) ?_ | refine NeedI.mk (fun h => h.2) ?_ | refine NeedI.mk (fun h => h.1) ?_ | exact Done.mk | refine Both.mk (fun _ => ?_) (fun _ => ?_) | refine Both2.mk (fun _ => ?_) ?_ | refine Need.mk (by first | omega | with_reducible exact CEq.refl _ | (dsimp only; omega) | (simp only [addN_eq]; omega) | exact ⟨rfl, rfl⟩ | (intros; simp only [Int.toNat_natCast, addN_eq, Nat.zero_add, rng]; omega)) ?_)
        | ((with_reducible fail_if_success first | refine LoopVC.mk ?_ | refine Need.mk ?_ ?_ | refine CallVC.mk ?_ | refine LoopEnd.mk ?_ | refine Out.mk ?_ | show False | refine NeedI.mk ?_ ?_); conv => whnf)
      refine LoopVC.inv (fun i : Nat => i ≤ w.length) (fun i => stL [(9, .va 9 0 0), (10, .c (slL 1 intE w)), (16, .os 49 0 1 0 w.length), (51, .c (.int .u8 st)), (52, .c (.int .u8 m)), (82, .c (.int .i64 w.length)), (83, .c (.int .i64 i))]
        [(9, vE [.c (slL 3 lnE l'.list), .c (.int .i64 l'.at_), .c (.bool l'.given)]), (49, ⟨1, w.length, .dat fun r j => intE (D2.getD r default) j, false, true⟩)]) (fun i => w.length - i) 0 (Nat.zero_le _) ?_ ?_
      · (refine Le.of ?_ ?_ <;> repeat' first | exact trivial | exact CEq.refl _ | exact rfl | exact cI (by push_cast; first | rfl | omega) | exact SubE.dat fun _ _ _ _ => CEq.refl _ | refine SubE.var2 ?_ ?_ | refine SubE.var1 ?_ | refine SubE.var3 ?_ ?_ ?_ | refine SubE.var4 ?_ ?_ ?_ ?_ | refine SubE.var5 ?_ ?_ ?_ ?_ ?_ | refine Exists.intro _ (And.intro rfl ?_) | refine And.intro ?_ ?_)
        exact SubE.dat hd2
      rintro Q1 hQ1 i hi
      repeat' first
        | (with_reducible first | refine NeedI.mk (fun h => h) ?_ | refine NeedI.mk (fun h => h.2) ?_ | refine NeedI.mk (fun h => h.1) ?_ | exact Done.mk | refine Both.mk (fun _ => ?_) (fun _ => ?_) | refine Both2.mk (fun _ => ?_) ?_ | refine Need.mk (by first | omega | with_reducible exact CEq.refl _ | (dsimp only; omega) | (dsimp only [rng]; omega) | (simp only [decide_eq_true_eq, decide_eq_false_iff_not, Bool.or_eq_true, Bool.and_eq_true, Bool.or_eq_false_iff, Int.toNat_natCast, addN_eq, cond_false, cond_true, rng] at *; omega) | exact ⟨rfl, rfl⟩) ?_)
        | ((with_reducible refine Need.mk ?_ ?_); exact CEq.refl _)
        | ((with_reducible fail_if_success first | refine LoopVC.mk ?_ | refine Need.mk ?_ ?_ | refine CallVC.mk ?_ | refine LoopEnd.mk ?_ | refine Out.mk ?_ | show False | refine NeedI.mk ?_ ?_); conv => whnf)
      · rename_i hil
        have hil : i < w.length := by have := of_decide_eq_true hil; omega
        have bi := (I'.bd hw hil).1
        have si := J2.b i hil
        refine LoopVC.inv (fun j : Nat => j ≤ w.length) (fun j => stL [(9, .va 9 0 0), (10, .c (slL 1 intE w)), (16, .os 49 0 1 0 w.length), (21, .c (.int .i64 i)), (51, .c (.int .u8 st)), (52, .c (.int .u8 m)), (82, .c (.int .i64 w.length)), (83, .c (.int .i64 i)), (87, .c (.int .i64 w.length)), (88, .c (.int .i64 j))]
          [(9, vE [.c (slL 3 lnE l'.list), .c (.int .i64 l'.at_), .c (.bool l'.given)]), (49, ⟨1, w.length, .dat fun r j => intE (D2.getD r default) j, false, true⟩)]) (fun j => w.length - j) 0 (Nat.zero_le _) ?_ ?_
        · (refine Le.of ?_ ?_ <;> repeat' first | exact trivial | exact CEq.refl _ | exact rfl | exact cI (by push_cast; first | rfl | omega) | exact SubE.dat fun _ _ _ _ => CEq.refl _ | refine SubE.var2 ?_ ?_ | refine SubE.var1 ?_ | refine SubE.var3 ?_ ?_ ?_ | refine SubE.var4 ?_ ?_ ?_ ?_ | refine SubE.var5 ?_ ?_ ?_ ?_ ?_ | refine Exists.intro _ (And.intro rfl ?_) | refine And.intro ?_ ?_)
        rintro Q2 hQ2 j hj
        have bj : j < w.length → (1 ≤ w.getD j default ∧ w.getD j default ≤ 8) ∧ 0 ≤ D2.getD j default ∧ D2.getD j default ≤ 8 * (m + 1 : Nat) ∧ D2.getD i default * w.getD j default - D2.getD j default * w.getD i default ≤ (w.getD i default * w.getD j default * 4 + 7 * w.getD i default) + (w.getD i default * w.getD j default * 4 + 7 * w.getD j default) := fun hj => by
          refine ⟨(I'.bd hw hj).1, (J2.b j hj).1, (J2.b j hj).2, ?_⟩
          have f1 := I'.fair hw hil hj
          have f2 := I0.fair hw hj hil
          rw [← J2.e i hil, ← J2.e j hj, Int.add_mul, Int.add_mul] at f1
          rw [Int.mul_comm (w.getD j default)] at f2
          omega
        have hm61 : 8 * (m + 1) ≤ 488 := by omega
        repeat' first
          | (with_reducible first | refine NeedI.mk (fun h => h) ?_ | refine NeedI.mk (fun h => h.2) ?_ | refine NeedI.mk (fun h => h.1) ?_ | exact Done.mk | refine Both.mk (fun _ => ?_) (fun _ => ?_) | refine Both2.mk (fun _ => ?_) ?_ | refine Need.mk (by first | omega | with_reducible exact CEq.refl _ | (dsimp only; omega) | (dsimp only [rng]; omega) | (simp only [decide_eq_true_eq, decide_eq_false_iff_not, Bool.or_eq_true, Bool.and_eq_true, Bool.or_eq_false_iff, Int.toNat_natCast, addN_eq, cond_false, cond_true, rng] at *; omega) | exact ⟨rfl, rfl⟩) ?_)
          | ((with_reducible refine Need.mk ?_ ?_); exact CEq.refl _)
          | ((with_reducible fail_if_success first | refine LoopVC.mk ?_ | refine Need.mk ?_ ?_ | refine CallVC.mk ?_ | refine LoopEnd.mk ?_ | refine Out.mk ?_ | show False | refine NeedI.mk ?_ ?_); conv => whnf)
        · rename_i hjl
          have hjl : j < w.length := by have := of_decide_eq_true hjl; omega
          obtain ⟨bj1, bj2, bj3, bf⟩ := bj hjl
          have m1 := mul_bd (n := 488) si.1 (by omega) bj1
          have m2 := mul_bd (n := 488) bj2 (by omega) bi
          have m3 := mul_bd (n := 8) (by omega) bi.2 bj1
          refine Need.mk (by show rng .i64 (D2.getD i default * w.getD j default); simp only [rng]; omega) ?_
          repeat' first
            | (with_reducible first | refine NeedI.mk (fun h => h) ?_ | refine NeedI.mk (fun h => h.2) ?_ | refine NeedI.mk (fun h => h.1) ?_ | exact Done.mk | refine Both.mk (fun _ => ?_) (fun _ => ?_) | refine Both2.mk (fun _ => ?_) ?_ | refine Need.mk (by first | omega | with_reducible exact CEq.refl _ | (dsimp only; omega) | (simp only [addN_eq]; omega) | exact ⟨rfl, rfl⟩ | (simp only [Int.toNat_natCast, addN_eq, Nat.zero_add, rng]; omega)) ?_)
            | ((with_reducible fail_if_success first | refine LoopVC.mk ?_ | refine Need.mk ?_ ?_ | refine CallVC.mk ?_ | refine LoopEnd.mk ?_ | refine Out.mk ?_ | show False | refine NeedI.mk ?_ ?_); conv => whnf)
          · exfalso
            rename_i h
            simp only [Int.toNat_natCast, addN_eq, Nat.zero_add, decide_eq_true_eq] at h
            omega
          · refine LoopEnd.mk ⟨j + 1, by omega, by omega, ?_⟩
            (refine Le.of ?_ ?_ <;> repeat' first | exact trivial | exact CEq.refl _ | exact rfl | exact cI (by push_cast; first | rfl | omega) | exact SubE.dat fun _ _ _ _ => CEq.refl _ | refine SubE.var2 ?_ ?_ | refine SubE.var1 ?_ | refine SubE.var3 ?_ ?_ ?_ | refine SubE.var4 ?_ ?_ ?_ ?_ | refine SubE.var5 ?_ ?_ ?_ ?_ ?_ | refine Exists.intro _ (And.intro rfl ?_) | refine And.intro ?_ ?_)
        · refine Out.mk (hQ2 _ _ ?_)
          repeat' first
            | (with_reducible first | refine NeedI.mk (fun h => h) ?_ | refine NeedI.mk (fun h => h.2) ?_ | refine NeedI.mk (fun h => h.1) ?_ | exact Done.mk | refine Both.mk (fun _ => ?_) (fun _ => ?_) | refine Both2.mk (fun _ => ?_) ?_ | refine Need.mk (by first | omega | with_reducible exact CEq.refl _ | (dsimp only; omega) | (dsimp only [rng]; omega) | (simp only [decide_eq_true_eq, decide_eq_false_iff_not, Bool.or_eq_true, Bool.and_eq_true, Bool.or_eq_false_iff, Int.toNat_natCast, addN_eq, cond_false, cond_true, rng] at *; omega) | exact ⟨rfl, rfl⟩) ?_)
            | ((with_reducible refine Need.mk ?_ ?_); exact CEq.refl _)
            | ((with_reducible fail_if_success first | refine LoopVC.mk ?_ | refine Need.mk ?_ ?_ | refine CallVC.mk ?_ | refine LoopEnd.mk ?_ | refine Out.mk ?_ | show False | refine NeedI.mk ?_ ?_); conv => whnf)
          refine LoopEnd.mk ⟨i + 1, by omega, by omega, ?_⟩
          (refine Le.of ?_ ?_ <;> repeat' first | exact trivial | exact CEq.refl _ | exact rfl | exact cI (by push_cast; first | rfl | omega) | exact SubE.dat fun _ _ _ _ => CEq.refl _ | refine SubE.var2 ?_ ?_ | refine SubE.var1 ?_ | refine SubE.var3 ?_ ?_ ?_ | refine SubE.var4 ?_ ?_ ?_ ?_ | refine SubE.var5 ?_ ?_ ?_ ?_ ?_ | refine Exists.intro _ (And.intro rfl ?_) | refine And.intro ?_ ?_)
      · refine Out.mk (hQ1 _ _ ?_)
        repeat' first
          | (with_reducible first | refine NeedI.mk (fun h => h) ?_ | refine NeedI.mk (fun h => h.2) ?_ | refine NeedI.mk (fun h => h.1) ?_ | exact Done.mk | refine Both.mk (fun _ => ?_) (fun _ => ?_) | refine Both2.mk (fun _ => ?_) ?_ | refine Need.mk (by first | omega | with_reducible exact CEq.refl _ | (dsimp only; omega) | (dsimp only [rng]; omega) | (simp only [decide_eq_true_eq, decide_eq_false_iff_not, Bool.or_eq_true, Bool.and_eq_true, Bool.or_eq_false_iff, Int.toNat_natCast, addN_eq, cond_false, cond_true, rng] at *; omega) | exact ⟨rfl, rfl⟩) ?_)
          | ((with_reducible refine Need.mk ?_ ?_); exact CEq.refl _)
          | ((with_reducible fail_if_success first | refine LoopVC.mk ?_ | refine Need.mk ?_ ?_ | refine CallVC.mk ?_ | refine LoopEnd.mk ?_ | refine Out.mk ?_ | show False | refine NeedI.mk ?_ ?_); conv => whnf)
        refine LoopEnd.mk ⟨(l', S2, D2, m + 1), ⟨⟨K, I'⟩, J2, by show m + 1 ≤ st; omega⟩, by show st - (m + 1) < st - m; omega, ?_⟩
        rw [show wrapI .u8 ((m : Int) + 1) = ((m + 1 : Nat) : Int) from wrap8 (m := m + 1) (by omega)]
        (refine Le.of ?_ ?_ <;> repeat' first | exact trivial | exact CEq.refl _ | exact rfl | exact cI (by push_cast; first | rfl | omega) | exact SubE.dat fun _ _ _ _ => CEq.refl _ | refine SubE.var2 ?_ ?_ | refine SubE.var1 ?_ | refine SubE.var3 ?_ ?_ ?_ | refine SubE.var4 ?_ ?_ ?_ ?_ | refine SubE.var5 ?_ ?_ ?_ ?_ ?_ | refine Exists.intro _ (And.intro rfl ?_) | refine And.intro ?_ ?_)
  · refine Out.mk (hQ _ _ ?_)
    repeat' first
      | (with_reducible first | refine NeedI.mk (fun h => h) ?_ | refine NeedI.mk (fun h => h.2) ?_ | refine NeedI.mk (fun h => h.1) ?_ | exact Done.mk | refine Both.mk (fun _ => ?_) (fun _ => ?_) | refine Both2.mk (fun _ => ?_) ?_ | refine Need.mk (by first | omega | with_reducible exact CEq.refl _ | (dsimp only; omega) | (dsimp only [rng]; omega) | (simp only [decide_eq_true_eq, decide_eq_false_iff_not, Bool.or_eq_true, Bool.and_eq_true, Bool.or_eq_false_iff, Int.toNat_natCast, addN_eq, cond_false, cond_true, rng] at *; omega) | exact ⟨rfl, rfl⟩) ?_)
      | ((with_reducible refine Need.mk ?_ ?_); exact CEq.refl _)
      | ((with_reducible fail_if_success first | refine LoopVC.mk ?_ | refine Need.mk ?_ ?_ | refine CallVC.mk ?_ | refine LoopEnd.mk ?_ | refine Out.mk ?_ | show False | refine NeedI.mk ?_ ?_); conv => whnf)
    refine CallVC.mk' (fun _ => awake_ok K) (fun _ => .nil) ?_
    repeat' first
      | (with_reducible first | refine NeedI.mk (fun h => h) ?_ | refine NeedI.mk (fun h => h.2) ?_ | refine NeedI.mk (fun h => h.1) ?_ | exact Done.mk | refine Both.mk (fun _ => ?_) (fun _ => ?_) | refine Both2.mk (fun _ => ?_) ?_ | refine Need.mk (by first | omega | with_reducible exact CEq.refl _ | (dsimp only; omega) | (dsimp only [rng]; omega) | (simp only [decide_eq_true_eq, decide_eq_false_iff_not, Bool.or_eq_true, Bool.and_eq_true, Bool.or_eq_false_iff, Int.toNat_natCast, addN_eq, cond_false, cond_true, rng] at *; omega) | exact ⟨rfl, rfl⟩) ?_)
      | ((with_reducible refine Need.mk ?_ ?_); exact CEq.refl _)
      | ((with_reducible fail_if_success first | refine LoopVC.mk ?_ | refine Need.mk ?_ ?_ | refine CallVC.mk ?_ | refine LoopEnd.mk ?_ | refine Out.mk ?_ | show False | refine NeedI.mk ?_ ?_); conv => whnf)
end
end Lk.S05
