/-
  Gs05d: what these chapters need.
-/
import Derived.Test.YtegfifeichfclaaGs05c
set_option linter.unusedSimpArgs false
set_option linter.unusedVariables false
namespace Lk.S05
open Go Lk Lk.C
def u2E (p : UInt8 × UInt8) (j : Nat) : Cell :=
  match j with
  | 0 => .int .u8 p.1.toNat
  | _ => .int .u8 p.2.toNat
def EU2 : Enc (UInt8 × UInt8) where
  sh := [.int .u8, .int .u8]
  enc := u2E
  wf _ := True
  dec g h := by
    obtain ⟨n, hn, hr⟩ := (h 0 _ rfl).intE
    obtain ⟨m, hm, hs⟩ := (h 1 _ rfl).intE
    simp only [rng] at hr hs
    refine ⟨(UInt8.ofNat n.toNat, UInt8.ofNat m.toNat), trivial, fun j hj => ?_⟩
    have hj : j < 2 := hj
    rcases (show j = 0 ∨ j = 1 by omega) with rfl | rfl
    · rw [hn]; exact eI (by show n = _; rw [UInt8.toNat_ofNat']; omega)
    · rw [hm]; exact eI (by show m = _; rw [UInt8.toNat_ofNat']; omega)
/-- A list more at k. -/
def ext (W : Nat → List Int) (k : Nat) (c : Int) (r : Nat) : List Int := bif Nat.beq r k then W r ++ [c] else W r
/-- What is wanted of a lane: an own slice. -/
def wE (W : Nat → List Int) (r : Nat) : Ent := ⟨1, (W r).length, .dat fun i _ => .int .i64 ((W r).getD i default), false, true⟩
def wA (W : Nat → List Int) : EC := .gen fun r _ => .os (2000 + r) 0 1 0 (W r).length
theorem ext_len {W : Nat → List Int} {k : Nat} {c : Int} : (ext W k c k).length = (W k).length + 1 := by
  unfold ext
  rw [show Nat.beq k k = true by simp]
  show (W k ++ [c]).length = _
  simp
theorem ext_ceq {W : Nat → List Int} {k : Nat} {c : Int} {g : Nat → Nat → Cell} (hg : g 0 0 = .int .i64 c) (i : Nat) (hi : i < (W k).length + 1) (j : Nat) (hj : j < 1) :
    CEq (appC (fun i _ => .int .i64 ((W k).getD i default)) (W k).length g i j) (.int .i64 ((ext W k c k).getD i default)) := by
  obtain rfl : j = 0 := by omega
  unfold ext
  rw [show Nat.beq k k = true by simp, cond_true, appC_at]
  by_cases e : (W k).length ≤ i
  · obtain rfl : i = (W k).length := by omega
    rw [if_pos (Nat.le_refl _), Nat.sub_self, hg]
    exact eI (by rw [List.getD_eq_getElem?_getD, List.getElem?_append_right (Nat.le_refl _), Nat.sub_self]; rfl)
  · rw [if_neg e]
    exact eI (by rw [List.getD_eq_getElem?_getD, List.getD_eq_getElem?_getD, List.getElem?_append_left (by omega)])
def wEz (W : Nat → List Int) (r : Nat) : Ent := ⟨1, (W r).length, .dat fun i _ => .int .i64 ((W r).getD i default), true, true⟩
theorem wE_ceq {l : List Int} : CEq (.sl 1 l.length fun i _ => Cell.int .i64 (l.getD (addN 0 i) default)) (slL 1 intE l) := by
  refine CEq.slice fun i hi j hj => ?_
  rw [addN_eq, Nat.zero_add]
  exact CEq.refl _
theorem pop_ceq {W : Nat → List Int} {q r : Nat} (h : 0 < (W q).length) :
    CEq (updC (fun r _ => slL 1 intE (W r)) (addN 0 (q : Int).toNat) 0 (Cell.sl 1 ((W (addN 0 (q : Int).toNat)).length - Int.toNat 1) fun i => (fun i j => intE ((W (addN 0 (q : Int).toNat)).getD i default) j) (addN (Int.toNat 1) i)) r 0)
      (slL 1 intE (if r = q then (W q).drop 1 else W r)) := by
  rw [Int.toNat_natCast, addN_eq, Nat.zero_add, updC_at]
  by_cases e : r = q
  · rw [if_pos ⟨e, rfl⟩, if_pos e]
    exact ((IsL.refl (size := 1) (enc := intE) (l := W q)).drop (k := 1)).ceq (by rw [List.length_drop]; rfl)
  · rw [if_neg (fun x => e x.1), if_neg e]
    exact CEq.refl _
section
variable {P : Program} {F : Nat → Nat}
set_option maxHeartbeats 8000000 in
set_option maxRecDepth 100000 in
theorem lanesAll_law (K : K05 P F) (hk : law05_LanesAll_k P F) (weights : List UInt8) (costs : List (UInt8 × UInt8)) (h1 : weights.length ≤ 9223372036854775807) (h2 : costs.length ≤ 9223372036854775807) :
    FnOk P (F 89) [.one (slL 1 EU8.enc weights), .one (slL 2 u2E costs)] [.one (.im (.bool true))] := by
  refine fnOk K.k.m hk ?_
  repeat' first
    | (with_reducible first | refine NeedI.mk (fun h => h) ?_ | refine NeedI.mk (fun h => h.2) ?_ | refine NeedI.mk (fun h => h.1) ?_ | (show Done; exact Done.mk) | refine Both.mk (fun _ => ?_) (fun _ => ?_) | refine Both2.mk (fun _ => ?_) ?_ | (refine Need.mk ?_ ?_; (first | omega | with_reducible exact CEq.refl _ | (dsimp only; omega) | (dsimp only [rng]; omega) | (simp only [decide_eq_true_eq, decide_eq_false_iff_not, Bool.or_eq_true, Bool.and_eq_true, Bool.or_eq_false_iff, Int.toNat_natCast, addN_eq, cond_false, cond_true, rng] at *; omega) | exact ⟨rfl, rfl⟩)))
    | ((with_reducible refine Need.mk ?_ ?_); exact CEq.refl _)
    | ((with_reducible fail_if_success first | refine LoopVC.mk ?_ | refine Need.mk ?_ ?_ | refine CallVC.mk ?_ | refine LoopEnd.mk ?_ | refine Out.mk ?_ | show False | refine NeedI.mk ?_ ?_); conv => whnf)
  refine LoopVC.inv (fun i : Nat => i ≤ weights.length ∧ i ≤ 6) (fun i => stL [(0, .c (slL 1 EU8.enc weights)), (1, .c (slL 2 u2E costs)), (5, .os 44 0 1 0 i), (6, .c (.int .i64 i))]
    [(44, ⟨1, i, .dat fun r j => intE ((wts weights i).getD r default) j, false, true⟩)]) (fun i => 6 - i) 0 ⟨Nat.zero_le _, by decide⟩ ?_ ?_
  · (refine Le.ofN [44] ?_ ?_ <;> repeat' first | exact trivial | exact SubF.inr ⟨_, _, _, rfl, rfl, rfl⟩ | exact SubF.inl (cI (by push_cast; first | rfl | omega)) | exact SubF.inl (CEq.refl _) | exact SubF.inl rfl | exact SubF.inl trivial | exact SubF.inl ⟨rfl, rfl, rfl⟩ | exact SubF.inl ⟨rfl, rfl, rfl, rfl, rfl⟩ | exact Or.inl ⟨rfl, rfl⟩ | refine Or.inr ⟨rfl, _, rfl, ?_⟩ | refine SubEF.var2 ?_ ?_ | refine SubEF.var1 ?_ | refine SubEF.var3 ?_ ?_ ?_ | refine SubEF.varN ?_ | refine SubEF.var4 ?_ ?_ ?_ ?_ | exact SubEF.of (SubE.dat fun _ _ _ _ => CEq.refl _) | refine And.intro ?_ ?_ | refine SubF.frz rfl rfl rfl rfl (Nat.le_of_eq (Nat.zero_add _)) rfl rfl ?_)
  rintro Q hQ i ⟨hi, hi6⟩
  repeat' first
    | (with_reducible first | refine NeedI.mk (fun h => h) ?_ | refine NeedI.mk (fun h => h.2) ?_ | refine NeedI.mk (fun h => h.1) ?_ | (show Done; exact Done.mk) | refine Both.mk (fun _ => ?_) (fun _ => ?_) | refine Both2.mk (fun _ => ?_) ?_ | (refine Need.mk ?_ ?_; (first | omega | with_reducible exact CEq.refl _ | (dsimp only; omega) | (dsimp only [rng]; omega) | (simp only [decide_eq_true_eq, decide_eq_false_iff_not, Bool.or_eq_true, Bool.and_eq_true, Bool.or_eq_false_iff, Int.toNat_natCast, addN_eq, cond_false, cond_true, rng] at *; omega) | exact ⟨rfl, rfl⟩)))
    | ((with_reducible refine Need.mk ?_ ?_); exact CEq.refl _)
    | ((with_reducible fail_if_success first | refine LoopVC.mk ?_ | refine Need.mk ?_ ?_ | refine CallVC.mk ?_ | refine LoopEnd.mk ?_ | refine Out.mk ?_ | show False | refine NeedI.mk ?_ ?_); conv => whnf)
  · rename_i h
    simp only [Bool.and_eq_true, decide_eq_true_eq] at h
    refine LoopEnd.mk ⟨i + 1, ⟨by omega, by omega⟩, by omega, ?_⟩
    have hl := wts_len (weights := weights) (i := i) hi
    have hs := wts_succ (weights := weights) (i := i) (by omega)
    rw [hs]
    generalize hw : wts weights i = w0 at *
    have h5 := (IsL.refl (size := 1) (enc := intE) (l := w0)).app (m := [wt (weights.getD i default)]) rfl (IsL.one (g := fun _ _ => Cell.int .i64 (wt (weights.getD i default))) fun j hj => CEq.refl _)
    (refine Le.of ?_ ?_ <;> repeat' first | exact trivial | exact CEq.refl _ | exact rfl | exact cI (by push_cast; first | rfl | omega) | exact SubE.dat fun _ _ _ _ => CEq.refl _ | refine SubE.var2 ?_ ?_ | refine SubE.var1 ?_ | refine SubE.var3 ?_ ?_ ?_ | refine SubE.var4 ?_ ?_ ?_ ?_ | refine SubE.var5 ?_ ?_ ?_ ?_ ?_ | refine SubE.varN ?_ | refine Exists.intro _ (And.intro rfl ?_) | refine And.intro ?_ ?_)
    refine SubE.dat fun r hr j hj => ?_
    have hr : r < i + 1 := hr
    obtain rfl : j = 0 := by have hj : j < 1 := hj; omega
    refine CEq.trans ?_ (h5 r (by simp; omega) 0 (by omega))
    rw [appC_at, appC_at, hl]
    by_cases e : i ≤ r
    · rw [if_pos e, if_pos e]
      obtain rfl : r = i := by omega
      rw [Nat.sub_self]
      exact CEq.refl _
    · rw [if_neg e, if_neg e]; exact CEq.refl _
  rename_i h
  clear h
  refine Out.mk (hQ _ _ ?_)
  clear hQ Q
  have hl := wts_len (weights := weights) (i := i) hi
  have hwok : i ≠ 0 → newOk (wts weights i) := fun h0 => ⟨⟨by omega, by omega⟩, wts_ok⟩
  have hce : CEq (Cell.sl 1 i fun r j => intE ((wts weights i).getD r default) j) (slL 1 intE (wts weights i)) := IsL.refl.ceq hl.symm
  generalize wts weights i = w at *
  have hE : newE w = if i = 0 then 1 else 0 := by
    by_cases h0 : i = 0
    · rw [if_pos h0]; exact if_neg (fun x => by have := x.1; omega)
    · rw [if_neg h0]; exact if_pos (hwok h0)
  repeat' first
    | (with_reducible first | refine NeedI.mk (fun h => h) ?_ | refine NeedI.mk (fun h => h.2) ?_ | refine NeedI.mk (fun h => h.1) ?_ | (show Done; exact Done.mk) | refine Both.mk (fun _ => ?_) (fun _ => ?_) | refine Both2.mk (fun _ => ?_) ?_ | (refine Need.mk ?_ ?_; (first | omega | with_reducible exact CEq.refl _ | (dsimp only; omega) | (dsimp only [rng]; omega) | (simp only [decide_eq_true_eq, decide_eq_false_iff_not, Bool.or_eq_true, Bool.and_eq_true, Bool.or_eq_false_iff, Int.toNat_natCast, addN_eq, cond_false, cond_true, rng] at *; omega) | exact ⟨rfl, rfl⟩)))
    | ((with_reducible refine Need.mk ?_ ?_); exact CEq.refl _)
    | ((with_reducible fail_if_success first | refine LoopVC.mk ?_ | refine Need.mk ?_ ?_ | refine CallVC.mk ?_ | refine LoopEnd.mk ?_ | refine Out.mk ?_ | show False | refine NeedI.mk ?_ ?_); conv => whnf)
  refine CallVC.mk' (fun _ => new_ok K.k w (by omega)) (fun _ => .cons (.one (CEq.trans (CEq.slice fun r hr j hj => CEq.refl _) hce)) .nil) ?_
  rw [hE]
  have hst := LA.start (w := w)
  generalize newL w = l0 at *
  repeat' first
    | (with_reducible first | refine NeedI.mk (fun h => h) ?_ | refine NeedI.mk (fun h => h.2) ?_ | refine NeedI.mk (fun h => h.1) ?_ | (show Done; exact Done.mk) | refine Both.mk (fun _ => ?_) (fun _ => ?_) | refine Both2.mk (fun _ => ?_) ?_ | (refine Need.mk ?_ ?_; (first | omega | with_reducible exact CEq.refl _ | (dsimp only; omega) | (dsimp only [rng]; omega) | (simp only [decide_eq_true_eq, decide_eq_false_iff_not, Bool.or_eq_true, Bool.and_eq_true, Bool.or_eq_false_iff, Int.toNat_natCast, addN_eq, cond_false, cond_true, rng] at *; omega) | exact ⟨rfl, rfl⟩)))
    | ((with_reducible refine Need.mk ?_ ?_); exact CEq.refl _)
    | ((with_reducible fail_if_success first | refine LoopVC.mk ?_ | refine Need.mk ?_ ?_ | refine CallVC.mk ?_ | refine LoopEnd.mk ?_ | refine Out.mk ?_ | show False | refine NeedI.mk ?_ ?_); conv => whnf)
  · rename_i h
    obtain rfl : i = 0 := Decidable.byContradiction fun x => by rw [if_neg x] at h; simp at h
    rw [if_pos rfl]
    repeat' first
      | (with_reducible first | refine NeedI.mk (fun h => h) ?_ | refine NeedI.mk (fun h => h.2) ?_ | refine NeedI.mk (fun h => h.1) ?_ | (show Done; exact Done.mk) | refine Both.mk (fun _ => ?_) (fun _ => ?_) | refine Both2.mk (fun _ => ?_) ?_ | (refine Need.mk ?_ ?_; (first | omega | with_reducible exact CEq.refl _ | (dsimp only; omega) | (dsimp only [rng]; omega) | (simp only [decide_eq_true_eq, decide_eq_false_iff_not, Bool.or_eq_true, Bool.and_eq_true, Bool.or_eq_false_iff, Int.toNat_natCast, addN_eq, cond_false, cond_true, rng] at *; omega) | exact ⟨rfl, rfl⟩)))
      | ((with_reducible refine Need.mk ?_ ?_); exact CEq.refl _)
      | ((with_reducible fail_if_success first | refine LoopVC.mk ?_ | refine Need.mk ?_ ?_ | refine CallVC.mk ?_ | refine LoopEnd.mk ?_ | refine Out.mk ?_ | show False | refine NeedI.mk ?_ ?_); conv => whnf)
    refine CallVC.mk' (fun _ => awake_ok K) (fun _ => .nil) ?_
    repeat' first
      | (with_reducible first | refine NeedI.mk (fun h => h) ?_ | refine NeedI.mk (fun h => h.2) ?_ | refine NeedI.mk (fun h => h.1) ?_ | (show Done; exact Done.mk) | refine Both.mk (fun _ => ?_) (fun _ => ?_) | refine Both2.mk (fun _ => ?_) ?_ | (refine Need.mk ?_ ?_; (first | omega | with_reducible exact CEq.refl _ | (dsimp only; omega) | (dsimp only [rng]; omega) | (simp only [decide_eq_true_eq, decide_eq_false_iff_not, Bool.or_eq_true, Bool.and_eq_true, Bool.or_eq_false_iff, Int.toNat_natCast, addN_eq, cond_false, cond_true, rng] at *; omega) | exact ⟨rfl, rfl⟩)))
      | ((with_reducible refine Need.mk ?_ ?_); exact CEq.refl _)
      | ((with_reducible fail_if_success first | refine LoopVC.mk ?_ | refine Need.mk ?_ ?_ | refine CallVC.mk ?_ | refine LoopEnd.mk ?_ | refine Out.mk ?_ | show False | refine NeedI.mk ?_ ?_); conv => whnf)
  rename_i h
  have h0 : i ≠ 0 := fun x => by rw [if_pos x] at h; simp at h
  replace hst := hst (hwok h0)
  rw [hl] at hst
  clear hE hce h hwok hl
  rw [show (bif false then max (costs.length : Int) 150 else min (costs.length : Int) 150) = ((min costs.length 150 : Nat) : Int) by rw [cond_false]; omega]
  obtain ⟨M, hM, hM1, hM2⟩ : ∃ M : Nat, min costs.length 150 = M ∧ M ≤ 150 ∧ M ≤ costs.length := ⟨_, rfl, by omega, by omega⟩
  rw [hM]
  clear hM
  obtain ⟨hst, hz⟩ := hst
  rcases (show i = 1 ∨ i = 2 ∨ i = 3 ∨ i = 4 ∨ i = 5 ∨ i = 6 by omega) with rfl | rfl | rfl | rfl | rfl | rfl
  · refine LoopVC.inv (X := Ls × Nat × (Nat → List Int)) (fun x => LA 1 x.2.1 x.1 ∧ x.2.1 ≤ M ∧ ∀ r, r < 1 → cA x.1 r = x.2.2 r)
      (fun x => stL [(5, .os 44 0 1 0 1), (7, .va 7 0 0), (9, .os 64 0 1 0 1), (10, .c (.int .i64 M)), (70, .c (.sl 2 M fun i j => u2E (costs.getD i default) j)), (71, .c (.int .i64 M)), (72, .c (.int .i64 x.2.1))]
        [(7, vE [.c (slL 3 lnE x.1.list), .c (.int .i64 x.1.at_), .c (.bool x.1.given)]), (44, ⟨1, 1, .dat fun r j => intE (w.getD r default) j, true, true⟩), (64, ⟨1, 1, wA x.2.2, false, true⟩), (2000, wE x.2.2 0)]) (fun x => M - x.2.1) ⟨l0, 0, fun _ => []⟩ ⟨hst, Nat.zero_le _, hz⟩ ?_ ?_
    · (refine Le.ofN [2000] ?_ ?_ <;> repeat' first | exact trivial | exact SubF.inr ⟨_, _, _, rfl, rfl, rfl⟩ | exact SubF.inl (cI (by push_cast; first | rfl | omega)) | exact SubF.inl (CEq.refl _) | exact SubF.inl rfl | exact SubF.inl trivial | exact SubF.inl ⟨rfl, rfl, rfl⟩ | exact SubF.inl ⟨rfl, rfl, rfl, rfl, rfl⟩ | exact Or.inl ⟨rfl, rfl⟩ | refine Or.inr ⟨rfl, _, rfl, ?_⟩ | refine SubEF.var2 ?_ ?_ | refine SubEF.var1 ?_ | refine SubEF.var3 ?_ ?_ ?_ | refine SubEF.varN ?_ | refine SubEF.var4 ?_ ?_ ?_ ?_ | exact SubEF.of (SubE.dat fun _ _ _ _ => CEq.refl _) | refine And.intro ?_ ?_ | refine SubF.frz rfl rfl rfl rfl (Nat.le_of_eq (Nat.zero_add _)) rfl rfl ?_)
      exact ⟨rfl, rfl, id, id, fun r hr j hj => by
        have hj : j < 1 := hj
        have hr : r < 1 := hr
        obtain rfl : j = 0 := by omega
        rcases (show r = 0 by omega) with rfl <;> exact SubF.inr ⟨_, _, _, rfl, rfl, rfl⟩⟩
    rintro Q hQ ⟨l, j, W⟩ ⟨I, hj, hW⟩
    dsimp only at I hj hW
    dsimp only
    repeat' first
      | (with_reducible first | refine NeedI.mk (fun h => h) ?_ | refine NeedI.mk (fun h => h.2) ?_ | refine NeedI.mk (fun h => h.1) ?_ | (show Done; exact Done.mk) | refine Both.mk (fun _ => ?_) (fun _ => ?_) | refine Both2.mk (fun _ => ?_) ?_ | (refine Need.mk ?_ ?_; (first | omega | with_reducible exact CEq.refl _ | (dsimp only; omega) | (dsimp only [rng]; omega) | (simp only [decide_eq_true_eq, decide_eq_false_iff_not, Bool.or_eq_true, Bool.and_eq_true, Bool.or_eq_false_iff, Int.toNat_natCast, addN_eq, cond_false, cond_true, rng] at *; omega) | exact ⟨rfl, rfl⟩)))
      | ((with_reducible refine Need.mk ?_ ?_); exact CEq.refl _)
      | ((with_reducible fail_if_success first | refine LoopVC.mk ?_ | refine Need.mk ?_ ?_ | refine CallVC.mk ?_ | refine LoopEnd.mk ?_ | refine Out.mk ?_ | show False | refine NeedI.mk ?_ ?_); conv => whnf)
    · rename_i hjl
      have hjl : j < M := by have := of_decide_eq_true hjl; omega
      have hu : ∀ u : UInt8, u.toNat < 256 := fun u => u.toNat_lt
      have hu0 := hu (costs.getD j default).1
      have hu1 := hu (costs.getD j default).2
      have hWl : ∀ r, r < 1 → (W r).length ≤ 150 := fun r hr => by
        have h5 := lft_le (l := l.list) (k := r) (by rw [I.nn]; exact hr)
        rw [I.ll] at h5
        rw [← hW r hr]
        show (l.list.getD r default).costs.length ≤ 150
        omega
      refine Need.mk rfl ?_
      repeat' first
        | (with_reducible first | refine NeedI.mk (fun h => h) ?_ | refine NeedI.mk (fun h => h.2) ?_ | refine NeedI.mk (fun h => h.1) ?_ | (show Done; exact Done.mk) | refine Both.mk (fun _ => ?_) (fun _ => ?_) | refine Both2.mk (fun _ => ?_) ?_ | (refine Need.mk ?_ ?_; (first | omega | with_reducible exact CEq.refl _ | (dsimp only; omega) | (dsimp only [rng]; omega) | (simp only [decide_eq_true_eq, decide_eq_false_iff_not, Bool.or_eq_true, Bool.and_eq_true, Bool.or_eq_false_iff, Int.toNat_natCast, addN_eq, cond_false, cond_true, rng] at *; omega) | exact ⟨rfl, rfl⟩)))
        | ((with_reducible refine Need.mk ?_ ?_); exact CEq.refl _)
        | ((with_reducible fail_if_success first | refine LoopVC.mk ?_ | refine Need.mk ?_ ?_ | refine CallVC.mk ?_ | refine LoopEnd.mk ?_ | refine Out.mk ?_ | show False | refine NeedI.mk ?_ ?_); conv => whnf)
      rw [Int.toNat_natCast]
      generalize (costs.getD j default).1.toNat = u0 at *
      generalize (costs.getD j default).2.toNat = u1 at *
      obtain ⟨c, hc⟩ : ∃ c : Int, 1 + (u1 : Int) % 8 = c := ⟨_, rfl⟩
      rw [hc]
      have hcb : 1 ≤ c ∧ c ≤ 8 := by omega
      clear hc hu hu1
      rcases (show (u0 : Int) % ((1 : Nat) : Int) = ((0 : Nat) : Int) by omega) with e
      · rw [e]
        clear e hu0
        obtain ⟨p1, p2, p3, p4⟩ := I.push (k := 0) (by omega) hcb (by omega)
        refine CallVC.mk' (fun _ => push_ok K.k l ((0 : Nat) : Int) c I.r.tiny) (fun _ => .cons ((.many fun j hj => by (rcases (show j = 0 ∨ j = 1 ∨ j = 2 by omega) with rfl | rfl | rfl <;> exact CEq.refl _))) (.cons (.one (CEq.refl _)) (.cons (.one (CEq.refl _)) .nil))) ?_
        rw [p1]
        generalize pushL l ((0 : Nat) : Int) c = l2 at *
        repeat' first
          | (with_reducible first | refine NeedI.mk (fun h => h) ?_ | refine NeedI.mk (fun h => h.2) ?_ | refine NeedI.mk (fun h => h.1) ?_ | (show Done; exact Done.mk) | refine Both.mk (fun _ => ?_) (fun _ => ?_) | refine Both2.mk (fun _ => ?_) ?_ | (refine Need.mk ?_ ?_; (first | omega | with_reducible exact CEq.refl _ | (dsimp only; omega) | (dsimp only [rng]; omega) | (simp only [decide_eq_true_eq, decide_eq_false_iff_not, Bool.or_eq_true, Bool.and_eq_true, Bool.or_eq_false_iff, Int.toNat_natCast, addN_eq, cond_false, cond_true, rng] at *; omega) | exact ⟨rfl, rfl⟩)))
          | ((with_reducible refine Need.mk ?_ ?_); exact CEq.refl _)
          | ((with_reducible fail_if_success first | refine LoopVC.mk ?_ | refine Need.mk ?_ ?_ | refine CallVC.mk ?_ | refine LoopEnd.mk ?_ | refine Out.mk ?_ | show False | refine NeedI.mk ?_ ?_); conv => whnf)
        · rename_i h; exact absurd h (by decide)
        have hl5 := hWl 0 (by omega)
        refine Need.mk (by show ((W 0).length + 1) * 8 ≤ 140737488355328 ∧ (W 0).length + 1 ≤ 140737488355328; omega) ?_
        repeat' first
          | (with_reducible first | refine NeedI.mk (fun h => h) ?_ | refine NeedI.mk (fun h => h.2) ?_ | refine NeedI.mk (fun h => h.1) ?_ | (show Done; exact Done.mk) | refine Both.mk (fun _ => ?_) (fun _ => ?_) | refine Both2.mk (fun _ => ?_) ?_ | (refine Need.mk ?_ ?_; (first | omega | with_reducible exact CEq.refl _ | (dsimp only; omega) | (dsimp only [rng]; omega) | (simp only [decide_eq_true_eq, decide_eq_false_iff_not, Bool.or_eq_true, Bool.and_eq_true, Bool.or_eq_false_iff, Int.toNat_natCast, addN_eq, cond_false, cond_true, rng] at *; omega) | exact ⟨rfl, rfl⟩)))
          | ((with_reducible refine Need.mk ?_ ?_); exact CEq.refl _)
          | ((with_reducible fail_if_success first | refine LoopVC.mk ?_ | refine Need.mk ?_ ?_ | refine CallVC.mk ?_ | refine LoopEnd.mk ?_ | refine Out.mk ?_ | show False | refine NeedI.mk ?_ ?_); conv => whnf)
        refine LoopEnd.mk ⟨(l2, j + 1, ext W 0 c), ⟨p2, hjl, fun r hr => ?_⟩, by show M - (j + 1) < M - j; omega, ?_⟩
        · rcases (show r = 0 by omega) with rfl <;> first | exact p3.trans (by rw [hW _ (by omega)]; rfl) | exact (p4 _ (by omega) (by omega)).trans (hW _ (by omega))
        · clear hQ
          have hlen := ext_len (W := W) (k := 0) (c := c)
          (refine Le.of ?_ ?_ <;> repeat' first | exact trivial | exact CEq.refl _ | exact rfl | exact cI (by push_cast; first | rfl | omega) | exact SubE.dat fun _ _ _ _ => CEq.refl _ | refine SubE.var2 ?_ ?_ | refine SubE.var1 ?_ | refine SubE.var3 ?_ ?_ ?_ | refine SubE.var4 ?_ ?_ ?_ ?_ | refine SubE.var5 ?_ ?_ ?_ ?_ ?_ | refine SubE.varN ?_ | refine Exists.intro _ (And.intro rfl ?_) | refine And.intro ?_ ?_)
          · exact ⟨rfl, rfl, id, id, fun r hr j hj => by
              have hj : j < 1 := hj
              have hr : r < 1 := hr
              obtain rfl : j = 0 := by omega
              rcases (show r = 0 by omega) with rfl <;> first | exact ⟨rfl, rfl, rfl, rfl, rfl⟩ | exact ⟨rfl, rfl, rfl, rfl, hlen.symm⟩⟩
          · exact ⟨rfl, hlen.symm, id, id, fun i hi j hj => ext_ceq rfl i hi j hj⟩
    rename_i hjl
    have hjl : j = M := by have := of_decide_eq_false hjl; omega
    subst hjl
    refine Out.mk (hQ _ _ ?_)
    clear hQ Q hj hst hz
    repeat' first
      | (with_reducible first | refine NeedI.mk (fun h => h) ?_ | refine NeedI.mk (fun h => h.2) ?_ | refine NeedI.mk (fun h => h.1) ?_ | (show Done; exact Done.mk) | refine Both.mk (fun _ => ?_) (fun _ => ?_) | refine Both2.mk (fun _ => ?_) ?_ | (refine Need.mk ?_ ?_; (first | omega | with_reducible exact CEq.refl _ | (dsimp only; omega) | (dsimp only [rng]; omega) | (simp only [decide_eq_true_eq, decide_eq_false_iff_not, Bool.or_eq_true, Bool.and_eq_true, Bool.or_eq_false_iff, Int.toNat_natCast, addN_eq, cond_false, cond_true, rng] at *; omega) | exact ⟨rfl, rfl⟩)))
      | ((with_reducible refine Need.mk ?_ ?_); exact CEq.refl _)
      | ((with_reducible fail_if_success first | refine LoopVC.mk ?_ | refine Need.mk ?_ ?_ | refine CallVC.mk ?_ | refine LoopEnd.mk ?_ | refine Out.mk ?_ | show False | refine NeedI.mk ?_ ?_); conv => whnf)
    refine LoopVC.inv (X := Ls × Nat × (Nat → List Int)) (fun x => x.2.1 ≤ j ∧ LA 1 (j - x.2.1) x.1 ∧ ∀ r, r < 1 → cA x.1 r = x.2.2 r)
      (fun x => stL [(5, .os 44 0 1 0 1), (7, .va 7 0 0), (9, .os 64 0 1 0 1), (108, .c (.int .i64 j)), (109, .c (.int .i64 x.2.1))]
        [(7, vE [.c (slL 3 lnE x.1.list), .c (.int .i64 x.1.at_), .c (.bool x.1.given)]), (44, ⟨1, 1, .dat fun r j => intE (w.getD r default) j, true, true⟩), (64, ⟨1, 1, .dat fun r _ => slL 1 intE (x.2.2 r), false, true⟩)]) (fun x => j - x.2.1) ⟨l, 0, W⟩ ⟨Nat.zero_le _, I, hW⟩ ?_ ?_
    · refine Le.trans (s2 := stL [(5, .os 44 0 1 0 1), (7, .va 7 0 0), (9, .os 64 0 1 0 1), (108, .c (.int .i64 j)), (109, .c (.int .i64 (0 : Nat)))]
        [(7, vE [.c (slL 3 lnE l.list), .c (.int .i64 l.at_), .c (.bool l.given)]), (44, ⟨1, 1, .dat fun r j => intE (w.getD r default) j, true, true⟩), (64, ⟨1, 1, wA W, false, true⟩), (2000, wEz W 0)]) ?_ ?_
      · (refine Le.of ?_ ?_ <;> repeat' first | exact trivial | exact CEq.refl _ | exact rfl | exact cI (by push_cast; first | rfl | omega) | exact SubE.dat fun _ _ _ _ => CEq.refl _ | refine SubE.var2 ?_ ?_ | refine SubE.var1 ?_ | refine SubE.var3 ?_ ?_ ?_ | refine SubE.var4 ?_ ?_ ?_ ?_ | refine SubE.var5 ?_ ?_ ?_ ?_ ?_ | refine SubE.varN ?_ | refine Exists.intro _ (And.intro rfl ?_) | refine And.intro ?_ ?_)
        all_goals first | exact ⟨rfl, rfl, fun _ => rfl, id, fun i hi j hj => CEq.refl _⟩ | exact ⟨rfl, rfl, id, id, fun r hr j hj => ⟨rfl, rfl, rfl, rfl, rfl⟩⟩
      (refine Le.ofN [] ?_ ?_ <;> repeat' first | exact trivial | exact SubF.inr ⟨_, _, _, rfl, rfl, rfl⟩ | exact SubF.inl (cI (by push_cast; first | rfl | omega)) | exact SubF.inl (CEq.refl _) | exact SubF.inl rfl | exact SubF.inl trivial | exact SubF.inl ⟨rfl, rfl, rfl⟩ | exact SubF.inl ⟨rfl, rfl, rfl, rfl, rfl⟩ | exact Or.inl ⟨rfl, rfl⟩ | refine Or.inr ⟨rfl, _, rfl, ?_⟩ | refine SubEF.var2 ?_ ?_ | refine SubEF.var1 ?_ | refine SubEF.var3 ?_ ?_ ?_ | refine SubEF.varN ?_ | refine SubEF.var4 ?_ ?_ ?_ ?_ | exact SubEF.of (SubE.dat fun _ _ _ _ => CEq.refl _) | refine And.intro ?_ ?_ | refine SubF.frz rfl rfl rfl rfl (Nat.le_of_eq (Nat.zero_add _)) rfl rfl ?_)
      exact ⟨rfl, rfl, id, id, fun r hr j hj => by
        have hj : j < 1 := hj
        have hr : r < 1 := hr
        obtain rfl : j = 0 := by omega
        rcases (show r = 0 by omega) with rfl <;> exact SubF.frz rfl rfl rfl rfl (Nat.le_of_eq (Nat.zero_add _)) rfl rfl (wE_ceq)⟩
    clear I hW
    rintro Q hQ ⟨l, k, W⟩ ⟨hk, I, hW⟩
    dsimp only at I hk hW
    dsimp only
    repeat' first
      | (with_reducible first | refine NeedI.mk (fun h => h) ?_ | refine NeedI.mk (fun h => h.2) ?_ | refine NeedI.mk (fun h => h.1) ?_ | (show Done; exact Done.mk) | refine Both.mk (fun _ => ?_) (fun _ => ?_) | refine Both2.mk (fun _ => ?_) ?_ | (refine Need.mk ?_ ?_; (first | omega | with_reducible exact CEq.refl _ | (dsimp only; omega) | (dsimp only [rng]; omega) | (simp only [decide_eq_true_eq, decide_eq_false_iff_not, Bool.or_eq_true, Bool.and_eq_true, Bool.or_eq_false_iff, Int.toNat_natCast, addN_eq, cond_false, cond_true, rng] at *; omega) | exact ⟨rfl, rfl⟩)))
      | ((with_reducible refine Need.mk ?_ ?_); exact CEq.refl _)
      | ((with_reducible fail_if_success first | refine LoopVC.mk ?_ | refine Need.mk ?_ ?_ | refine CallVC.mk ?_ | refine LoopEnd.mk ?_ | refine Out.mk ?_ | show False | refine NeedI.mk ?_ ?_); conv => whnf)
    · rename_i hkj
      have hkj : k < j := by have := of_decide_eq_true hkj; omega
      rw [show j - k = (j - (k + 1)) + 1 by omega] at I
      obtain ⟨n1, n2, q, n3, n4, n5, n6, n7, n8⟩ := I.next
      have hWq := hW q n4
      rw [hWq] at n5 n6 n7
      have hpos : 0 < (W q).length := List.length_pos_iff.2 n5
      refine CallVC.mk' (fun _ => next_ok K.k l I.r.tiny) (fun _ => .cons ((.many fun j hj => by (rcases (show j = 0 ∨ j = 1 ∨ j = 2 by omega) with rfl | rfl | rfl <;> exact CEq.refl _))) .nil) ?_
      rw [decide_eq_true n1, n3, n7]
      generalize nextL l = l2 at *
      repeat' first
        | (with_reducible first | refine NeedI.mk (fun h => h) ?_ | refine NeedI.mk (fun h => h.2) ?_ | refine NeedI.mk (fun h => h.1) ?_ | (show Done; exact Done.mk) | refine Both.mk (fun _ => ?_) (fun _ => ?_) | refine Both2.mk (fun _ => ?_) ?_ | (refine Need.mk ?_ ?_; (first | omega | with_reducible exact CEq.refl _ | (dsimp only; omega) | (dsimp only [rng]; omega) | (simp only [decide_eq_true_eq, decide_eq_false_iff_not, Bool.or_eq_true, Bool.and_eq_true, Bool.or_eq_false_iff, Int.toNat_natCast, addN_eq, cond_false, cond_true, rng] at *; omega) | exact ⟨rfl, rfl⟩)))
        | ((with_reducible refine Need.mk ?_ ?_); exact CEq.refl _)
        | ((with_reducible fail_if_success first | refine LoopVC.mk ?_ | refine Need.mk ?_ ?_ | refine CallVC.mk ?_ | refine LoopEnd.mk ?_ | refine Out.mk ?_ | show False | refine NeedI.mk ?_ ?_); conv => whnf)
      · rename_i h
        exfalso
        rw [Int.toNat_natCast, addN_eq, Nat.zero_add, decide_eq_false (show ¬ (q : Int) < 0 by omega), decide_eq_false (show ¬ ((1 : Nat) : Int) ≤ (q : Int) by omega), decide_eq_false (show ¬ ((W q).length : Int) = 0 by omega),
          decide_eq_true (show (W q).getD (Int.toNat 0) default = (W q).getD 0 default from rfl)] at h
        exact absurd h (by decide)
      refine LoopEnd.mk ⟨(l2, k + 1, fun r => if r = q then (W q).drop 1 else W r), ⟨hkj, n2, fun r hr => ?_⟩, by show j - (k + 1) < j - k; omega, ?_⟩
      · show cA l2 r = if r = q then (W q).drop 1 else W r
        by_cases e : r = q
        · rw [if_pos e, e]; exact n6
        · rw [if_neg e, n8 r hr e]; exact hW r hr
      · clear hQ
        (refine Le.of ?_ ?_ <;> repeat' first | exact trivial | exact CEq.refl _ | exact rfl | exact cI (by push_cast; first | rfl | omega) | exact SubE.dat fun _ _ _ _ => CEq.refl _ | refine SubE.var2 ?_ ?_ | refine SubE.var1 ?_ | refine SubE.var3 ?_ ?_ ?_ | refine SubE.var4 ?_ ?_ ?_ ?_ | refine SubE.var5 ?_ ?_ ?_ ?_ ?_ | refine SubE.varN ?_ | refine Exists.intro _ (And.intro rfl ?_) | refine And.intro ?_ ?_)
        exact SubE.dat fun r hr i hi => by
          have hi : i < 1 := hi
          obtain rfl : i = 0 := by omega
          exact pop_ceq hpos
    rename_i hkj
    have hkj : k = j := by have := of_decide_eq_false hkj; omega
    subst hkj
    rw [Nat.sub_self] at I
    refine Out.mk (hQ _ _ ?_)
    clear hQ Q
    repeat' first
      | (with_reducible first | refine NeedI.mk (fun h => h) ?_ | refine NeedI.mk (fun h => h.2) ?_ | refine NeedI.mk (fun h => h.1) ?_ | (show Done; exact Done.mk) | refine Both.mk (fun _ => ?_) (fun _ => ?_) | refine Both2.mk (fun _ => ?_) ?_ | (refine Need.mk ?_ ?_; (first | omega | with_reducible exact CEq.refl _ | (dsimp only; omega) | (dsimp only [rng]; omega) | (simp only [decide_eq_true_eq, decide_eq_false_iff_not, Bool.or_eq_true, Bool.and_eq_true, Bool.or_eq_false_iff, Int.toNat_natCast, addN_eq, cond_false, cond_true, rng] at *; omega) | exact ⟨rfl, rfl⟩)))
      | ((with_reducible refine Need.mk ?_ ?_); exact CEq.refl _)
      | ((with_reducible fail_if_success first | refine LoopVC.mk ?_ | refine Need.mk ?_ ?_ | refine CallVC.mk ?_ | refine LoopEnd.mk ?_ | refine Out.mk ?_ | show False | refine NeedI.mk ?_ ?_); conv => whnf)
    have hno := I.stop
    refine CallVC.mk' (fun _ => next_ok K.k l I.r.tiny) (fun _ => .cons ((.many fun j hj => by (rcases (show j = 0 ∨ j = 1 ∨ j = 2 by omega) with rfl | rfl | rfl <;> exact CEq.refl _))) .nil) ?_
    rw [decide_eq_false hno]
    repeat' first
      | (with_reducible first | refine NeedI.mk (fun h => h) ?_ | refine NeedI.mk (fun h => h.2) ?_ | refine NeedI.mk (fun h => h.1) ?_ | (show Done; exact Done.mk) | refine Both.mk (fun _ => ?_) (fun _ => ?_) | refine Both2.mk (fun _ => ?_) ?_ | (refine Need.mk ?_ ?_; (first | omega | with_reducible exact CEq.refl _ | (dsimp only; omega) | (dsimp only [rng]; omega) | (simp only [decide_eq_true_eq, decide_eq_false_iff_not, Bool.or_eq_true, Bool.and_eq_true, Bool.or_eq_false_iff, Int.toNat_natCast, addN_eq, cond_false, cond_true, rng] at *; omega) | exact ⟨rfl, rfl⟩)))
      | ((with_reducible refine Need.mk ?_ ?_); exact CEq.refl _)
      | ((with_reducible fail_if_success first | refine LoopVC.mk ?_ | refine Need.mk ?_ ?_ | refine CallVC.mk ?_ | refine LoopEnd.mk ?_ | refine Out.mk ?_ | show False | refine NeedI.mk ?_ ?_); conv => whnf)
    refine CallVC.mk' (fun _ => awake_ok K) (fun _ => .nil) ?_
    repeat' first
      | (with_reducible first | refine NeedI.mk (fun h => h) ?_ | refine NeedI.mk (fun h => h.2) ?_ | refine NeedI.mk (fun h => h.1) ?_ | (show Done; exact Done.mk) | refine Both.mk (fun _ => ?_) (fun _ => ?_) | refine Both2.mk (fun _ => ?_) ?_ | (refine Need.mk ?_ ?_; (first | omega | with_reducible exact CEq.refl _ | (dsimp only; omega) | (dsimp only [rng]; omega) | (simp only [decide_eq_true_eq, decide_eq_false_iff_not, Bool.or_eq_true, Bool.and_eq_true, Bool.or_eq_false_iff, Int.toNat_natCast, addN_eq, cond_false, cond_true, rng] at *; omega) | exact ⟨rfl, rfl⟩)))
      | ((with_reducible refine Need.mk ?_ ?_); exact CEq.refl _)
      | ((with_reducible fail_if_success first | refine LoopVC.mk ?_ | refine Need.mk ?_ ?_ | refine CallVC.mk ?_ | refine LoopEnd.mk ?_ | refine Out.mk ?_ | show False | refine NeedI.mk ?_ ?_); conv => whnf)
  · refine LoopVC.inv (X := Ls × Nat × (Nat → List Int)) (fun x => LA 2 x.2.1 x.1 ∧ x.2.1 ≤ M ∧ ∀ r, r < 2 → cA x.1 r = x.2.2 r)
      (fun x => stL [(5, .os 44 0 1 0 2), (7, .va 7 0 0), (9, .os 64 0 1 0 2), (10, .c (.int .i64 M)), (70, .c (.sl 2 M fun i j => u2E (costs.getD i default) j)), (71, .c (.int .i64 M)), (72, .c (.int .i64 x.2.1))]
        [(7, vE [.c (slL 3 lnE x.1.list), .c (.int .i64 x.1.at_), .c (.bool x.1.given)]), (44, ⟨1, 2, .dat fun r j => intE (w.getD r default) j, true, true⟩), (64, ⟨1, 2, wA x.2.2, false, true⟩), (2000, wE x.2.2 0), (2001, wE x.2.2 1)]) (fun x => M - x.2.1) ⟨l0, 0, fun _ => []⟩ ⟨hst, Nat.zero_le _, hz⟩ ?_ ?_
    · (refine Le.ofN [2000,2001] ?_ ?_ <;> repeat' first | exact trivial | exact SubF.inr ⟨_, _, _, rfl, rfl, rfl⟩ | exact SubF.inl (cI (by push_cast; first | rfl | omega)) | exact SubF.inl (CEq.refl _) | exact SubF.inl rfl | exact SubF.inl trivial | exact SubF.inl ⟨rfl, rfl, rfl⟩ | exact SubF.inl ⟨rfl, rfl, rfl, rfl, rfl⟩ | exact Or.inl ⟨rfl, rfl⟩ | refine Or.inr ⟨rfl, _, rfl, ?_⟩ | refine SubEF.var2 ?_ ?_ | refine SubEF.var1 ?_ | refine SubEF.var3 ?_ ?_ ?_ | refine SubEF.varN ?_ | refine SubEF.var4 ?_ ?_ ?_ ?_ | exact SubEF.of (SubE.dat fun _ _ _ _ => CEq.refl _) | refine And.intro ?_ ?_ | refine SubF.frz rfl rfl rfl rfl (Nat.le_of_eq (Nat.zero_add _)) rfl rfl ?_)
      exact ⟨rfl, rfl, id, id, fun r hr j hj => by
        have hj : j < 1 := hj
        have hr : r < 2 := hr
        obtain rfl : j = 0 := by omega
        rcases (show r = 0 ∨ r = 1 by omega) with rfl | rfl <;> exact SubF.inr ⟨_, _, _, rfl, rfl, rfl⟩⟩
    rintro Q hQ ⟨l, j, W⟩ ⟨I, hj, hW⟩
    dsimp only at I hj hW
    dsimp only
    repeat' first
      | (with_reducible first | refine NeedI.mk (fun h => h) ?_ | refine NeedI.mk (fun h => h.2) ?_ | refine NeedI.mk (fun h => h.1) ?_ | (show Done; exact Done.mk) | refine Both.mk (fun _ => ?_) (fun _ => ?_) | refine Both2.mk (fun _ => ?_) ?_ | (refine Need.mk ?_ ?_; (first | omega | with_reducible exact CEq.refl _ | (dsimp only; omega) | (dsimp only [rng]; omega) | (simp only [decide_eq_true_eq, decide_eq_false_iff_not, Bool.or_eq_true, Bool.and_eq_true, Bool.or_eq_false_iff, Int.toNat_natCast, addN_eq, cond_false, cond_true, rng] at *; omega) | exact ⟨rfl, rfl⟩)))
      | ((with_reducible refine Need.mk ?_ ?_); exact CEq.refl _)
      | ((with_reducible fail_if_success first | refine LoopVC.mk ?_ | refine Need.mk ?_ ?_ | refine CallVC.mk ?_ | refine LoopEnd.mk ?_ | refine Out.mk ?_ | show False | refine NeedI.mk ?_ ?_); conv => whnf)
    · rename_i hjl
      have hjl : j < M := by have := of_decide_eq_true hjl; omega
      have hu : ∀ u : UInt8, u.toNat < 256 := fun u => u.toNat_lt
      have hu0 := hu (costs.getD j default).1
      have hu1 := hu (costs.getD j default).2
      have hWl : ∀ r, r < 2 → (W r).length ≤ 150 := fun r hr => by
        have h5 := lft_le (l := l.list) (k := r) (by rw [I.nn]; exact hr)
        rw [I.ll] at h5
        rw [← hW r hr]
        show (l.list.getD r default).costs.length ≤ 150
        omega
      refine Need.mk rfl ?_
      repeat' first
        | (with_reducible first | refine NeedI.mk (fun h => h) ?_ | refine NeedI.mk (fun h => h.2) ?_ | refine NeedI.mk (fun h => h.1) ?_ | (show Done; exact Done.mk) | refine Both.mk (fun _ => ?_) (fun _ => ?_) | refine Both2.mk (fun _ => ?_) ?_ | (refine Need.mk ?_ ?_; (first | omega | with_reducible exact CEq.refl _ | (dsimp only; omega) | (dsimp only [rng]; omega) | (simp only [decide_eq_true_eq, decide_eq_false_iff_not, Bool.or_eq_true, Bool.and_eq_true, Bool.or_eq_false_iff, Int.toNat_natCast, addN_eq, cond_false, cond_true, rng] at *; omega) | exact ⟨rfl, rfl⟩)))
        | ((with_reducible refine Need.mk ?_ ?_); exact CEq.refl _)
        | ((with_reducible fail_if_success first | refine LoopVC.mk ?_ | refine Need.mk ?_ ?_ | refine CallVC.mk ?_ | refine LoopEnd.mk ?_ | refine Out.mk ?_ | show False | refine NeedI.mk ?_ ?_); conv => whnf)
      rw [Int.toNat_natCast]
      generalize (costs.getD j default).1.toNat = u0 at *
      generalize (costs.getD j default).2.toNat = u1 at *
      obtain ⟨c, hc⟩ : ∃ c : Int, 1 + (u1 : Int) % 8 = c := ⟨_, rfl⟩
      rw [hc]
      have hcb : 1 ≤ c ∧ c ≤ 8 := by omega
      clear hc hu hu1
      rcases (show (u0 : Int) % ((2 : Nat) : Int) = ((0 : Nat) : Int) ∨ (u0 : Int) % ((2 : Nat) : Int) = ((1 : Nat) : Int) by omega) with e | e
      · rw [e]
        clear e hu0
        obtain ⟨p1, p2, p3, p4⟩ := I.push (k := 0) (by omega) hcb (by omega)
        refine CallVC.mk' (fun _ => push_ok K.k l ((0 : Nat) : Int) c I.r.tiny) (fun _ => .cons ((.many fun j hj => by (rcases (show j = 0 ∨ j = 1 ∨ j = 2 by omega) with rfl | rfl | rfl <;> exact CEq.refl _))) (.cons (.one (CEq.refl _)) (.cons (.one (CEq.refl _)) .nil))) ?_
        rw [p1]
        generalize pushL l ((0 : Nat) : Int) c = l2 at *
        repeat' first
          | (with_reducible first | refine NeedI.mk (fun h => h) ?_ | refine NeedI.mk (fun h => h.2) ?_ | refine NeedI.mk (fun h => h.1) ?_ | (show Done; exact Done.mk) | refine Both.mk (fun _ => ?_) (fun _ => ?_) | refine Both2.mk (fun _ => ?_) ?_ | (refine Need.mk ?_ ?_; (first | omega | with_reducible exact CEq.refl _ | (dsimp only; omega) | (dsimp only [rng]; omega) | (simp only [decide_eq_true_eq, decide_eq_false_iff_not, Bool.or_eq_true, Bool.and_eq_true, Bool.or_eq_false_iff, Int.toNat_natCast, addN_eq, cond_false, cond_true, rng] at *; omega) | exact ⟨rfl, rfl⟩)))
          | ((with_reducible refine Need.mk ?_ ?_); exact CEq.refl _)
          | ((with_reducible fail_if_success first | refine LoopVC.mk ?_ | refine Need.mk ?_ ?_ | refine CallVC.mk ?_ | refine LoopEnd.mk ?_ | refine Out.mk ?_ | show False | refine NeedI.mk ?_ ?_); conv => whnf)
        · rename_i h; exact absurd h (by decide)
        have hl5 := hWl 0 (by omega)
        refine Need.mk (by show ((W 0).length + 1) * 8 ≤ 140737488355328 ∧ (W 0).length + 1 ≤ 140737488355328; omega) ?_
        repeat' first
          | (with_reducible first | refine NeedI.mk (fun h => h) ?_ | refine NeedI.mk (fun h => h.2) ?_ | refine NeedI.mk (fun h => h.1) ?_ | (show Done; exact Done.mk) | refine Both.mk (fun _ => ?_) (fun _ => ?_) | refine Both2.mk (fun _ => ?_) ?_ | (refine Need.mk ?_ ?_; (first | omega | with_reducible exact CEq.refl _ | (dsimp only; omega) | (dsimp only [rng]; omega) | (simp only [decide_eq_true_eq, decide_eq_false_iff_not, Bool.or_eq_true, Bool.and_eq_true, Bool.or_eq_false_iff, Int.toNat_natCast, addN_eq, cond_false, cond_true, rng] at *; omega) | exact ⟨rfl, rfl⟩)))
          | ((with_reducible refine Need.mk ?_ ?_); exact CEq.refl _)
          | ((with_reducible fail_if_success first | refine LoopVC.mk ?_ | refine Need.mk ?_ ?_ | refine CallVC.mk ?_ | refine LoopEnd.mk ?_ | refine Out.mk ?_ | show False | refine NeedI.mk ?_ ?_); conv => whnf)
        refine LoopEnd.mk ⟨(l2, j + 1, ext W 0 c), ⟨p2, hjl, fun r hr => ?_⟩, by show M - (j + 1) < M - j; omega, ?_⟩
        · rcases (show r = 0 ∨ r = 1 by omega) with rfl | rfl <;> first | exact p3.trans (by rw [hW _ (by omega)]; rfl) | exact (p4 _ (by omega) (by omega)).trans (hW _ (by omega))
        · clear hQ
          have hlen := ext_len (W := W) (k := 0) (c := c)
          (refine Le.of ?_ ?_ <;> repeat' first | exact trivial | exact CEq.refl _ | exact rfl | exact cI (by push_cast; first | rfl | omega) | exact SubE.dat fun _ _ _ _ => CEq.refl _ | refine SubE.var2 ?_ ?_ | refine SubE.var1 ?_ | refine SubE.var3 ?_ ?_ ?_ | refine SubE.var4 ?_ ?_ ?_ ?_ | refine SubE.var5 ?_ ?_ ?_ ?_ ?_ | refine SubE.varN ?_ | refine Exists.intro _ (And.intro rfl ?_) | refine And.intro ?_ ?_)
          · exact ⟨rfl, rfl, id, id, fun r hr j hj => by
              have hj : j < 1 := hj
              have hr : r < 2 := hr
              obtain rfl : j = 0 := by omega
              rcases (show r = 0 ∨ r = 1 by omega) with rfl | rfl <;> first | exact ⟨rfl, rfl, rfl, rfl, rfl⟩ | exact ⟨rfl, rfl, rfl, rfl, hlen.symm⟩⟩
          · exact ⟨rfl, hlen.symm, id, id, fun i hi j hj => ext_ceq rfl i hi j hj⟩
      · rw [e]
        clear e hu0
        obtain ⟨p1, p2, p3, p4⟩ := I.push (k := 1) (by omega) hcb (by omega)
        refine CallVC.mk' (fun _ => push_ok K.k l ((1 : Nat) : Int) c I.r.tiny) (fun _ => .cons ((.many fun j hj => by (rcases (show j = 0 ∨ j = 1 ∨ j = 2 by omega) with rfl | rfl | rfl <;> exact CEq.refl _))) (.cons (.one (CEq.refl _)) (.cons (.one (CEq.refl _)) .nil))) ?_
        rw [p1]
        generalize pushL l ((1 : Nat) : Int) c = l2 at *
        repeat' first
          | (with_reducible first | refine NeedI.mk (fun h => h) ?_ | refine NeedI.mk (fun h => h.2) ?_ | refine NeedI.mk (fun h => h.1) ?_ | (show Done; exact Done.mk) | refine Both.mk (fun _ => ?_) (fun _ => ?_) | refine Both2.mk (fun _ => ?_) ?_ | (refine Need.mk ?_ ?_; (first | omega | with_reducible exact CEq.refl _ | (dsimp only; omega) | (dsimp only [rng]; omega) | (simp only [decide_eq_true_eq, decide_eq_false_iff_not, Bool.or_eq_true, Bool.and_eq_true, Bool.or_eq_false_iff, Int.toNat_natCast, addN_eq, cond_false, cond_true, rng] at *; omega) | exact ⟨rfl, rfl⟩)))
          | ((with_reducible refine Need.mk ?_ ?_); exact CEq.refl _)
          | ((with_reducible fail_if_success first | refine LoopVC.mk ?_ | refine Need.mk ?_ ?_ | refine CallVC.mk ?_ | refine LoopEnd.mk ?_ | refine Out.mk ?_ | show False | refine NeedI.mk ?_ ?_); conv => whnf)
        · rename_i h; exact absurd h (by decide)
        have hl5 := hWl 1 (by omega)
        refine Need.mk (by show ((W 1).length + 1) * 8 ≤ 140737488355328 ∧ (W 1).length + 1 ≤ 140737488355328; omega) ?_
        repeat' first
          | (with_reducible first | refine NeedI.mk (fun h => h) ?_ | refine NeedI.mk (fun h => h.2) ?_ | refine NeedI.mk (fun h => h.1) ?_ | (show Done; exact Done.mk) | refine Both.mk (fun _ => ?_) (fun _ => ?_) | refine Both2.mk (fun _ => ?_) ?_ | (refine Need.mk ?_ ?_; (first | omega | with_reducible exact CEq.refl _ | (dsimp only; omega) | (dsimp only [rng]; omega) | (simp only [decide_eq_true_eq, decide_eq_false_iff_not, Bool.or_eq_true, Bool.and_eq_true, Bool.or_eq_false_iff, Int.toNat_natCast, addN_eq, cond_false, cond_true, rng] at *; omega) | exact ⟨rfl, rfl⟩)))
          | ((with_reducible refine Need.mk ?_ ?_); exact CEq.refl _)
          | ((with_reducible fail_if_success first | refine LoopVC.mk ?_ | refine Need.mk ?_ ?_ | refine CallVC.mk ?_ | refine LoopEnd.mk ?_ | refine Out.mk ?_ | show False | refine NeedI.mk ?_ ?_); conv => whnf)
        refine LoopEnd.mk ⟨(l2, j + 1, ext W 1 c), ⟨p2, hjl, fun r hr => ?_⟩, by show M - (j + 1) < M - j; omega, ?_⟩
        · rcases (show r = 0 ∨ r = 1 by omega) with rfl | rfl <;> first | exact p3.trans (by rw [hW _ (by omega)]; rfl) | exact (p4 _ (by omega) (by omega)).trans (hW _ (by omega))
        · clear hQ
          have hlen := ext_len (W := W) (k := 1) (c := c)
          (refine Le.of ?_ ?_ <;> repeat' first | exact trivial | exact CEq.refl _ | exact rfl | exact cI (by push_cast; first | rfl | omega) | exact SubE.dat fun _ _ _ _ => CEq.refl _ | refine SubE.var2 ?_ ?_ | refine SubE.var1 ?_ | refine SubE.var3 ?_ ?_ ?_ | refine SubE.var4 ?_ ?_ ?_ ?_ | refine SubE.var5 ?_ ?_ ?_ ?_ ?_ | refine SubE.varN ?_ | refine Exists.intro _ (And.intro rfl ?_) | refine And.intro ?_ ?_)
          · exact ⟨rfl, rfl, id, id, fun r hr j hj => by
              have hj : j < 1 := hj
              have hr : r < 2 := hr
              obtain rfl : j = 0 := by omega
              rcases (show r = 0 ∨ r = 1 by omega) with rfl | rfl <;> first | exact ⟨rfl, rfl, rfl, rfl, rfl⟩ | exact ⟨rfl, rfl, rfl, rfl, hlen.symm⟩⟩
          · exact ⟨rfl, hlen.symm, id, id, fun i hi j hj => ext_ceq rfl i hi j hj⟩
    rename_i hjl
    have hjl : j = M := by have := of_decide_eq_false hjl; omega
    subst hjl
    refine Out.mk (hQ _ _ ?_)
    clear hQ Q hj hst hz
    repeat' first
      | (with_reducible first | refine NeedI.mk (fun h => h) ?_ | refine NeedI.mk (fun h => h.2) ?_ | refine NeedI.mk (fun h => h.1) ?_ | (show Done; exact Done.mk) | refine Both.mk (fun _ => ?_) (fun _ => ?_) | refine Both2.mk (fun _ => ?_) ?_ | (refine Need.mk ?_ ?_; (first | omega | with_reducible exact CEq.refl _ | (dsimp only; omega) | (dsimp only [rng]; omega) | (simp only [decide_eq_true_eq, decide_eq_false_iff_not, Bool.or_eq_true, Bool.and_eq_true, Bool.or_eq_false_iff, Int.toNat_natCast, addN_eq, cond_false, cond_true, rng] at *; omega) | exact ⟨rfl, rfl⟩)))
      | ((with_reducible refine Need.mk ?_ ?_); exact CEq.refl _)
      | ((with_reducible fail_if_success first | refine LoopVC.mk ?_ | refine Need.mk ?_ ?_ | refine CallVC.mk ?_ | refine LoopEnd.mk ?_ | refine Out.mk ?_ | show False | refine NeedI.mk ?_ ?_); conv => whnf)
    refine LoopVC.inv (X := Ls × Nat × (Nat → List Int)) (fun x => x.2.1 ≤ j ∧ LA 2 (j - x.2.1) x.1 ∧ ∀ r, r < 2 → cA x.1 r = x.2.2 r)
      (fun x => stL [(5, .os 44 0 1 0 2), (7, .va 7 0 0), (9, .os 64 0 1 0 2), (108, .c (.int .i64 j)), (109, .c (.int .i64 x.2.1))]
        [(7, vE [.c (slL 3 lnE x.1.list), .c (.int .i64 x.1.at_), .c (.bool x.1.given)]), (44, ⟨1, 2, .dat fun r j => intE (w.getD r default) j, true, true⟩), (64, ⟨1, 2, .dat fun r _ => slL 1 intE (x.2.2 r), false, true⟩)]) (fun x => j - x.2.1) ⟨l, 0, W⟩ ⟨Nat.zero_le _, I, hW⟩ ?_ ?_
    · refine Le.trans (s2 := stL [(5, .os 44 0 1 0 2), (7, .va 7 0 0), (9, .os 64 0 1 0 2), (108, .c (.int .i64 j)), (109, .c (.int .i64 (0 : Nat)))]
        [(7, vE [.c (slL 3 lnE l.list), .c (.int .i64 l.at_), .c (.bool l.given)]), (44, ⟨1, 2, .dat fun r j => intE (w.getD r default) j, true, true⟩), (64, ⟨1, 2, wA W, false, true⟩), (2000, wEz W 0), (2001, wEz W 1)]) ?_ ?_
      · (refine Le.of ?_ ?_ <;> repeat' first | exact trivial | exact CEq.refl _ | exact rfl | exact cI (by push_cast; first | rfl | omega) | exact SubE.dat fun _ _ _ _ => CEq.refl _ | refine SubE.var2 ?_ ?_ | refine SubE.var1 ?_ | refine SubE.var3 ?_ ?_ ?_ | refine SubE.var4 ?_ ?_ ?_ ?_ | refine SubE.var5 ?_ ?_ ?_ ?_ ?_ | refine SubE.varN ?_ | refine Exists.intro _ (And.intro rfl ?_) | refine And.intro ?_ ?_)
        all_goals first | exact ⟨rfl, rfl, fun _ => rfl, id, fun i hi j hj => CEq.refl _⟩ | exact ⟨rfl, rfl, id, id, fun r hr j hj => ⟨rfl, rfl, rfl, rfl, rfl⟩⟩
      (refine Le.ofN [] ?_ ?_ <;> repeat' first | exact trivial | exact SubF.inr ⟨_, _, _, rfl, rfl, rfl⟩ | exact SubF.inl (cI (by push_cast; first | rfl | omega)) | exact SubF.inl (CEq.refl _) | exact SubF.inl rfl | exact SubF.inl trivial | exact SubF.inl ⟨rfl, rfl, rfl⟩ | exact SubF.inl ⟨rfl, rfl, rfl, rfl, rfl⟩ | exact Or.inl ⟨rfl, rfl⟩ | refine Or.inr ⟨rfl, _, rfl, ?_⟩ | refine SubEF.var2 ?_ ?_ | refine SubEF.var1 ?_ | refine SubEF.var3 ?_ ?_ ?_ | refine SubEF.varN ?_ | refine SubEF.var4 ?_ ?_ ?_ ?_ | exact SubEF.of (SubE.dat fun _ _ _ _ => CEq.refl _) | refine And.intro ?_ ?_ | refine SubF.frz rfl rfl rfl rfl (Nat.le_of_eq (Nat.zero_add _)) rfl rfl ?_)
      exact ⟨rfl, rfl, id, id, fun r hr j hj => by
        have hj : j < 1 := hj
        have hr : r < 2 := hr
        obtain rfl : j = 0 := by omega
        rcases (show r = 0 ∨ r = 1 by omega) with rfl | rfl <;> exact SubF.frz rfl rfl rfl rfl (Nat.le_of_eq (Nat.zero_add _)) rfl rfl (wE_ceq)⟩
    clear I hW
    rintro Q hQ ⟨l, k, W⟩ ⟨hk, I, hW⟩
    dsimp only at I hk hW
    dsimp only
    repeat' first
      | (with_reducible first | refine NeedI.mk (fun h => h) ?_ | refine NeedI.mk (fun h => h.2) ?_ | refine NeedI.mk (fun h => h.1) ?_ | (show Done; exact Done.mk) | refine Both.mk (fun _ => ?_) (fun _ => ?_) | refine Both2.mk (fun _ => ?_) ?_ | (refine Need.mk ?_ ?_; (first | omega | with_reducible exact CEq.refl _ | (dsimp only; omega) | (dsimp only [rng]; omega) | (simp only [decide_eq_true_eq, decide_eq_false_iff_not, Bool.or_eq_true, Bool.and_eq_true, Bool.or_eq_false_iff, Int.toNat_natCast, addN_eq, cond_false, cond_true, rng] at *; omega) | exact ⟨rfl, rfl⟩)))
      | ((with_reducible refine Need.mk ?_ ?_); exact CEq.refl _)
      | ((with_reducible fail_if_success first | refine LoopVC.mk ?_ | refine Need.mk ?_ ?_ | refine CallVC.mk ?_ | refine LoopEnd.mk ?_ | refine Out.mk ?_ | show False | refine NeedI.mk ?_ ?_); conv => whnf)
    · rename_i hkj
      have hkj : k < j := by have := of_decide_eq_true hkj; omega
      rw [show j - k = (j - (k + 1)) + 1 by omega] at I
      obtain ⟨n1, n2, q, n3, n4, n5, n6, n7, n8⟩ := I.next
      have hWq := hW q n4
      rw [hWq] at n5 n6 n7
      have hpos : 0 < (W q).length := List.length_pos_iff.2 n5
      refine CallVC.mk' (fun _ => next_ok K.k l I.r.tiny) (fun _ => .cons ((.many fun j hj => by (rcases (show j = 0 ∨ j = 1 ∨ j = 2 by omega) with rfl | rfl | rfl <;> exact CEq.refl _))) .nil) ?_
      rw [decide_eq_true n1, n3, n7]
      generalize nextL l = l2 at *
      repeat' first
        | (with_reducible first | refine NeedI.mk (fun h => h) ?_ | refine NeedI.mk (fun h => h.2) ?_ | refine NeedI.mk (fun h => h.1) ?_ | (show Done; exact Done.mk) | refine Both.mk (fun _ => ?_) (fun _ => ?_) | refine Both2.mk (fun _ => ?_) ?_ | (refine Need.mk ?_ ?_; (first | omega | with_reducible exact CEq.refl _ | (dsimp only; omega) | (dsimp only [rng]; omega) | (simp only [decide_eq_true_eq, decide_eq_false_iff_not, Bool.or_eq_true, Bool.and_eq_true, Bool.or_eq_false_iff, Int.toNat_natCast, addN_eq, cond_false, cond_true, rng] at *; omega) | exact ⟨rfl, rfl⟩)))
        | ((with_reducible refine Need.mk ?_ ?_); exact CEq.refl _)
        | ((with_reducible fail_if_success first | refine LoopVC.mk ?_ | refine Need.mk ?_ ?_ | refine CallVC.mk ?_ | refine LoopEnd.mk ?_ | refine Out.mk ?_ | show False | refine NeedI.mk ?_ ?_); conv => whnf)
      · rename_i h
        exfalso
        rw [Int.toNat_natCast, addN_eq, Nat.zero_add, decide_eq_false (show ¬ (q : Int) < 0 by omega), decide_eq_false (show ¬ ((2 : Nat) : Int) ≤ (q : Int) by omega), decide_eq_false (show ¬ ((W q).length : Int) = 0 by omega),
          decide_eq_true (show (W q).getD (Int.toNat 0) default = (W q).getD 0 default from rfl)] at h
        exact absurd h (by decide)
      refine LoopEnd.mk ⟨(l2, k + 1, fun r => if r = q then (W q).drop 1 else W r), ⟨hkj, n2, fun r hr => ?_⟩, by show j - (k + 1) < j - k; omega, ?_⟩
      · show cA l2 r = if r = q then (W q).drop 1 else W r
        by_cases e : r = q
        · rw [if_pos e, e]; exact n6
        · rw [if_neg e, n8 r hr e]; exact hW r hr
      · clear hQ
        (refine Le.of ?_ ?_ <;> repeat' first | exact trivial | exact CEq.refl _ | exact rfl | exact cI (by push_cast; first | rfl | omega) | exact SubE.dat fun _ _ _ _ => CEq.refl _ | refine SubE.var2 ?_ ?_ | refine SubE.var1 ?_ | refine SubE.var3 ?_ ?_ ?_ | refine SubE.var4 ?_ ?_ ?_ ?_ | refine SubE.var5 ?_ ?_ ?_ ?_ ?_ | refine SubE.varN ?_ | refine Exists.intro _ (And.intro rfl ?_) | refine And.intro ?_ ?_)
        exact SubE.dat fun r hr i hi => by
          have hi : i < 1 := hi
          obtain rfl : i = 0 := by omega
          exact pop_ceq hpos
    rename_i hkj
    have hkj : k = j := by have := of_decide_eq_false hkj; omega
    subst hkj
    rw [Nat.sub_self] at I
    refine Out.mk (hQ _ _ ?_)
    clear hQ Q
    repeat' first
      | (with_reducible first | refine NeedI.mk (fun h => h) ?_ | refine NeedI.mk (fun h => h.2) ?_ | refine NeedI.mk (fun h => h.1) ?_ | (show Done; exact Done.mk) | refine Both.mk (fun _ => ?_) (fun _ => ?_) | refine Both2.mk (fun _ => ?_) ?_ | (refine Need.mk ?_ ?_; (first | omega | with_reducible exact CEq.refl _ | (dsimp only; omega) | (dsimp only [rng]; omega) | (simp only [decide_eq_true_eq, decide_eq_false_iff_not, Bool.or_eq_true, Bool.and_eq_true, Bool.or_eq_false_iff, Int.toNat_natCast, addN_eq, cond_false, cond_true, rng] at *; omega) | exact ⟨rfl, rfl⟩)))
      | ((with_reducible refine Need.mk ?_ ?_); exact CEq.refl _)
      | ((with_reducible fail_if_success first | refine LoopVC.mk ?_ | refine Need.mk ?_ ?_ | refine CallVC.mk ?_ | refine LoopEnd.mk ?_ | refine Out.mk ?_ | show False | refine NeedI.mk ?_ ?_); conv => whnf)
    have hno := I.stop
    refine CallVC.mk' (fun _ => next_ok K.k l I.r.tiny) (fun _ => .cons ((.many fun j hj => by (rcases (show j = 0 ∨ j = 1 ∨ j = 2 by omega) with rfl | rfl | rfl <;> exact CEq.refl _))) .nil) ?_
    rw [decide_eq_false hno]
    repeat' first
      | (with_reducible first | refine NeedI.mk (fun h => h) ?_ | refine NeedI.mk (fun h => h.2) ?_ | refine NeedI.mk (fun h => h.1) ?_ | (show Done; exact Done.mk) | refine Both.mk (fun _ => ?_) (fun _ => ?_) | refine Both2.mk (fun _ => ?_) ?_ | (refine Need.mk ?_ ?_; (first | omega | with_reducible exact CEq.refl _ | (dsimp only; omega) | (dsimp only [rng]; omega) | (simp only [decide_eq_true_eq, decide_eq_false_iff_not, Bool.or_eq_true, Bool.and_eq_true, Bool.or_eq_false_iff, Int.toNat_natCast, addN_eq, cond_false, cond_true, rng] at *; omega) | exact ⟨rfl, rfl⟩)))
      | ((with_reducible refine Need.mk ?_ ?_); exact CEq.refl _)
      | ((with_reducible fail_if_success first | refine LoopVC.mk ?_ | refine Need.mk ?_ ?_ | refine CallVC.mk ?_ | refine LoopEnd.mk ?_ | refine Out.mk ?_ | show False | refine NeedI.mk ?_ ?_); conv => whnf)
    refine CallVC.mk' (fun _ => awake_ok K) (fun _ => .nil) ?_
    repeat' first
      | (with_reducible first | refine NeedI.mk (fun h => h) ?_ | refine NeedI.mk (fun h => h.2) ?_ | refine NeedI.mk (fun h => h.1) ?_ | (show Done; exact Done.mk) | refine Both.mk (fun _ => ?_) (fun _ => ?_) | refine Both2.mk (fun _ => ?_) ?_ | (refine Need.mk ?_ ?_; (first | omega | with_reducible exact CEq.refl _ | (dsimp only; omega) | (dsimp only [rng]; omega) | (simp only [decide_eq_true_eq, decide_eq_false_iff_not, Bool.or_eq_true, Bool.and_eq_true, Bool.or_eq_false_iff, Int.toNat_natCast, addN_eq, cond_false, cond_true, rng] at *; omega) | exact ⟨rfl, rfl⟩)))
      | ((with_reducible refine Need.mk ?_ ?_); exact CEq.refl _)
      | ((with_reducible fail_if_success first | refine LoopVC.mk ?_ | refine Need.mk ?_ ?_ | refine CallVC.mk ?_ | refine LoopEnd.mk ?_ | refine Out.mk ?_ | show False | refine NeedI.mk ?_ ?_); conv => whnf)
  · refine LoopVC.inv (X := Ls × Nat × (Nat → List Int)) (fun x => LA 3 x.2.1 x.1 ∧ x.2.1 ≤ M ∧ ∀ r, r < 3 → cA x.1 r = x.2.2 r)
      (fun x => stL [(5, .os 44 0 1 0 3), (7, .va 7 0 0), (9, .os 64 0 1 0 3), (10, .c (.int .i64 M)), (70, .c (.sl 2 M fun i j => u2E (costs.getD i default) j)), (71, .c (.int .i64 M)), (72, .c (.int .i64 x.2.1))]
        [(7, vE [.c (slL 3 lnE x.1.list), .c (.int .i64 x.1.at_), .c (.bool x.1.given)]), (44, ⟨1, 3, .dat fun r j => intE (w.getD r default) j, true, true⟩), (64, ⟨1, 3, wA x.2.2, false, true⟩), (2000, wE x.2.2 0), (2001, wE x.2.2 1), (2002, wE x.2.2 2)]) (fun x => M - x.2.1) ⟨l0, 0, fun _ => []⟩ ⟨hst, Nat.zero_le _, hz⟩ ?_ ?_
    · (refine Le.ofN [2000,2001,2002] ?_ ?_ <;> repeat' first | exact trivial | exact SubF.inr ⟨_, _, _, rfl, rfl, rfl⟩ | exact SubF.inl (cI (by push_cast; first | rfl | omega)) | exact SubF.inl (CEq.refl _) | exact SubF.inl rfl | exact SubF.inl trivial | exact SubF.inl ⟨rfl, rfl, rfl⟩ | exact SubF.inl ⟨rfl, rfl, rfl, rfl, rfl⟩ | exact Or.inl ⟨rfl, rfl⟩ | refine Or.inr ⟨rfl, _, rfl, ?_⟩ | refine SubEF.var2 ?_ ?_ | refine SubEF.var1 ?_ | refine SubEF.var3 ?_ ?_ ?_ | refine SubEF.varN ?_ | refine SubEF.var4 ?_ ?_ ?_ ?_ | exact SubEF.of (SubE.dat fun _ _ _ _ => CEq.refl _) | refine And.intro ?_ ?_ | refine SubF.frz rfl rfl rfl rfl (Nat.le_of_eq (Nat.zero_add _)) rfl rfl ?_)
      exact ⟨rfl, rfl, id, id, fun r hr j hj => by
        have hj : j < 1 := hj
        have hr : r < 3 := hr
        obtain rfl : j = 0 := by omega
        rcases (show r = 0 ∨ r = 1 ∨ r = 2 by omega) with rfl | rfl | rfl <;> exact SubF.inr ⟨_, _, _, rfl, rfl, rfl⟩⟩
    rintro Q hQ ⟨l, j, W⟩ ⟨I, hj, hW⟩
    dsimp only at I hj hW
    dsimp only
    repeat' first
      | (with_reducible first | refine NeedI.mk (fun h => h) ?_ | refine NeedI.mk (fun h => h.2) ?_ | refine NeedI.mk (fun h => h.1) ?_ | (show Done; exact Done.mk) | refine Both.mk (fun _ => ?_) (fun _ => ?_) | refine Both2.mk (fun _ => ?_) ?_ | (refine Need.mk ?_ ?_; (first | omega | with_reducible exact CEq.refl _ | (dsimp only; omega) | (dsimp only [rng]; omega) | (simp only [decide_eq_true_eq, decide_eq_false_iff_not, Bool.or_eq_true, Bool.and_eq_true, Bool.or_eq_false_iff, Int.toNat_natCast, addN_eq, cond_false, cond_true, rng] at *; omega) | exact ⟨rfl, rfl⟩)))
      | ((with_reducible refine Need.mk ?_ ?_); exact CEq.refl _)
      | ((with_reducible fail_if_success first | refine LoopVC.mk ?_ | refine Need.mk ?_ ?_ | refine CallVC.mk ?_ | refine LoopEnd.mk ?_ | refine Out.mk ?_ | show False | refine NeedI.mk ?_ ?_); conv => whnf)
    · rename_i hjl
      have hjl : j < M := by have := of_decide_eq_true hjl; omega
      have hu : ∀ u : UInt8, u.toNat < 256 := fun u => u.toNat_lt
      have hu0 := hu (costs.getD j default).1
      have hu1 := hu (costs.getD j default).2
      have hWl : ∀ r, r < 3 → (W r).length ≤ 150 := fun r hr => by
        have h5 := lft_le (l := l.list) (k := r) (by rw [I.nn]; exact hr)
        rw [I.ll] at h5
        rw [← hW r hr]
        show (l.list.getD r default).costs.length ≤ 150
        omega
      refine Need.mk rfl ?_
      repeat' first
        | (with_reducible first | refine NeedI.mk (fun h => h) ?_ | refine NeedI.mk (fun h => h.2) ?_ | refine NeedI.mk (fun h => h.1) ?_ | (show Done; exact Done.mk) | refine Both.mk (fun _ => ?_) (fun _ => ?_) | refine Both2.mk (fun _ => ?_) ?_ | (refine Need.mk ?_ ?_; (first | omega | with_reducible exact CEq.refl _ | (dsimp only; omega) | (dsimp only [rng]; omega) | (simp only [decide_eq_true_eq, decide_eq_false_iff_not, Bool.or_eq_true, Bool.and_eq_true, Bool.or_eq_false_iff, Int.toNat_natCast, addN_eq, cond_false, cond_true, rng] at *; omega) | exact ⟨rfl, rfl⟩)))
        | ((with_reducible refine Need.mk ?_ ?_); exact CEq.refl _)
        | ((with_reducible fail_if_success first | refine LoopVC.mk ?_ | refine Need.mk ?_ ?_ | refine CallVC.mk ?_ | refine LoopEnd.mk ?_ | refine Out.mk ?_ | show False | refine NeedI.mk ?_ ?_); conv => whnf)
      rw [Int.toNat_natCast]
      generalize (costs.getD j default).1.toNat = u0 at *
      generalize (costs.getD j default).2.toNat = u1 at *
      obtain ⟨c, hc⟩ : ∃ c : Int, 1 + (u1 : Int) % 8 = c := ⟨_, rfl⟩
      rw [hc]
      have hcb : 1 ≤ c ∧ c ≤ 8 := by omega
      clear hc hu hu1
      rcases (show (u0 : Int) % ((3 : Nat) : Int) = ((0 : Nat) : Int) ∨ (u0 : Int) % ((3 : Nat) : Int) = ((1 : Nat) : Int) ∨ (u0 : Int) % ((3 : Nat) : Int) = ((2 : Nat) : Int) by omega) with e | e | e
      · rw [e]
        clear e hu0
        obtain ⟨p1, p2, p3, p4⟩ := I.push (k := 0) (by omega) hcb (by omega)
        refine CallVC.mk' (fun _ => push_ok K.k l ((0 : Nat) : Int) c I.r.tiny) (fun _ => .cons ((.many fun j hj => by (rcases (show j = 0 ∨ j = 1 ∨ j = 2 by omega) with rfl | rfl | rfl <;> exact CEq.refl _))) (.cons (.one (CEq.refl _)) (.cons (.one (CEq.refl _)) .nil))) ?_
        rw [p1]
        generalize pushL l ((0 : Nat) : Int) c = l2 at *
        repeat' first
          | (with_reducible first | refine NeedI.mk (fun h => h) ?_ | refine NeedI.mk (fun h => h.2) ?_ | refine NeedI.mk (fun h => h.1) ?_ | (show Done; exact Done.mk) | refine Both.mk (fun _ => ?_) (fun _ => ?_) | refine Both2.mk (fun _ => ?_) ?_ | (refine Need.mk ?_ ?_; (first | omega | with_reducible exact CEq.refl _ | (dsimp only; omega) | (dsimp only [rng]; omega) | (simp only [decide_eq_true_eq, decide_eq_false_iff_not, Bool.or_eq_true, Bool.and_eq_true, Bool.or_eq_false_iff, Int.toNat_natCast, addN_eq, cond_false, cond_true, rng] at *; omega) | exact ⟨rfl, rfl⟩)))
          | ((with_reducible refine Need.mk ?_ ?_); exact CEq.refl _)
          | ((with_reducible fail_if_success first | refine LoopVC.mk ?_ | refine Need.mk ?_ ?_ | refine CallVC.mk ?_ | refine LoopEnd.mk ?_ | refine Out.mk ?_ | show False | refine NeedI.mk ?_ ?_); conv => whnf)
        · rename_i h; exact absurd h (by decide)
        have hl5 := hWl 0 (by omega)
        refine Need.mk (by show ((W 0).length + 1) * 8 ≤ 140737488355328 ∧ (W 0).length + 1 ≤ 140737488355328; omega) ?_
        repeat' first
          | (with_reducible first | refine NeedI.mk (fun h => h) ?_ | refine NeedI.mk (fun h => h.2) ?_ | refine NeedI.mk (fun h => h.1) ?_ | (show Done; exact Done.mk) | refine Both.mk (fun _ => ?_) (fun _ => ?_) | refine Both2.mk (fun _ => ?_) ?_ | (refine Need.mk ?_ ?_; (first | omega | with_reducible exact CEq.refl _ | (dsimp only; omega) | (dsimp only [rng]; omega) | (simp only [decide_eq_true_eq, decide_eq_false_iff_not, Bool.or_eq_true, Bool.and_eq_true, Bool.or_eq_false_iff, Int.toNat_natCast, addN_eq, cond_false, cond_true, rng] at *; omega) | exact ⟨rfl, rfl⟩)))
          | ((with_reducible refine Need.mk ?_ ?_); exact CEq.refl _)
          | ((with_reducible fail_if_success first | refine LoopVC.mk ?_ | refine Need.mk ?_ ?_ | refine CallVC.mk ?_ | refine LoopEnd.mk ?_ | refine Out.mk ?_ | show False | refine NeedI.mk ?_ ?_); conv => whnf)
        refine LoopEnd.mk ⟨(l2, j + 1, ext W 0 c), ⟨p2, hjl, fun r hr => ?_⟩, by show M - (j + 1) < M - j; omega, ?_⟩
        · rcases (show r = 0 ∨ r = 1 ∨ r = 2 by omega) with rfl | rfl | rfl <;> first | exact p3.trans (by rw [hW _ (by omega)]; rfl) | exact (p4 _ (by omega) (by omega)).trans (hW _ (by omega))
        · clear hQ
          have hlen := ext_len (W := W) (k := 0) (c := c)
          (refine Le.of ?_ ?_ <;> repeat' first | exact trivial | exact CEq.refl _ | exact rfl | exact cI (by push_cast; first | rfl | omega) | exact SubE.dat fun _ _ _ _ => CEq.refl _ | refine SubE.var2 ?_ ?_ | refine SubE.var1 ?_ | refine SubE.var3 ?_ ?_ ?_ | refine SubE.var4 ?_ ?_ ?_ ?_ | refine SubE.var5 ?_ ?_ ?_ ?_ ?_ | refine SubE.varN ?_ | refine Exists.intro _ (And.intro rfl ?_) | refine And.intro ?_ ?_)
          · exact ⟨rfl, rfl, id, id, fun r hr j hj => by
              have hj : j < 1 := hj
              have hr : r < 3 := hr
              obtain rfl : j = 0 := by omega
              rcases (show r = 0 ∨ r = 1 ∨ r = 2 by omega) with rfl | rfl | rfl <;> first | exact ⟨rfl, rfl, rfl, rfl, rfl⟩ | exact ⟨rfl, rfl, rfl, rfl, hlen.symm⟩⟩
          · exact ⟨rfl, hlen.symm, id, id, fun i hi j hj => ext_ceq rfl i hi j hj⟩
      · rw [e]
        clear e hu0
        obtain ⟨p1, p2, p3, p4⟩ := I.push (k := 1) (by omega) hcb (by omega)
        refine CallVC.mk' (fun _ => push_ok K.k l ((1 : Nat) : Int) c I.r.tiny) (fun _ => .cons ((.many fun j hj => by (rcases (show j = 0 ∨ j = 1 ∨ j = 2 by omega) with rfl | rfl | rfl <;> exact CEq.refl _))) (.cons (.one (CEq.refl _)) (.cons (.one (CEq.refl _)) .nil))) ?_
        rw [p1]
        generalize pushL l ((1 : Nat) : Int) c = l2 at *
        repeat' first
          | (with_reducible first | refine NeedI.mk (fun h => h) ?_ | refine NeedI.mk (fun h => h.2) ?_ | refine NeedI.mk (fun h => h.1) ?_ | (show Done; exact Done.mk) | refine Both.mk (fun _ => ?_) (fun _ => ?_) | refine Both2.mk (fun _ => ?_) ?_ | (refine Need.mk ?_ ?_; (first | omega | with_reducible exact CEq.refl _ | (dsimp only; omega) | (dsimp only [rng]; omega) | (simp only [decide_eq_true_eq, decide_eq_false_iff_not, Bool.or_eq_true, Bool.and_eq_true, Bool.or_eq_false_iff, Int.toNat_natCast, addN_eq, cond_false, cond_true, rng] at *; omega) | exact ⟨rfl, rfl⟩)))
          | ((with_reducible refine Need.mk ?_ ?_); exact CEq.refl _)
          | ((with_reducible fail_if_success first | refine LoopVC.mk ?_ | refine Need.mk ?_ ?_ | refine CallVC.mk ?_ | refine LoopEnd.mk ?_ | refine Out.mk ?_ | show False | refine NeedI.mk ?_ ?_); conv => whnf)
        · rename_i h; exact absurd h (by decide)
        have hl5 := hWl 1 (by omega)
        refine Need.mk (by show ((W 1).length + 1) * 8 ≤ 140737488355328 ∧ (W 1).length + 1 ≤ 140737488355328; omega) ?_
        repeat' first
          | (with_reducible first | refine NeedI.mk (fun h => h) ?_ | refine NeedI.mk (fun h => h.2) ?_ | refine NeedI.mk (fun h => h.1) ?_ | (show Done; exact Done.mk) | refine Both.mk (fun _ => ?_) (fun _ => ?_) | refine Both2.mk (fun _ => ?_) ?_ | (refine Need.mk ?_ ?_; (first | omega | with_reducible exact CEq.refl _ | (dsimp only; omega) | (dsimp only [rng]; omega) | (simp only [decide_eq_true_eq, decide_eq_false_iff_not, Bool.or_eq_true, Bool.and_eq_true, Bool.or_eq_false_iff, Int.toNat_natCast, addN_eq, cond_false, cond_true, rng] at *; omega) | exact ⟨rfl, rfl⟩)))
          | ((with_reducible refine Need.mk ?_ ?_); exact CEq.refl _)
          | ((with_reducible fail_if_success first | refine LoopVC.mk ?_ | refine Need.mk ?_ ?_ | refine CallVC.mk ?_ | refine LoopEnd.mk ?_ | refine Out.mk ?_ | show False | refine NeedI.mk ?_ ?_); conv => whnf)
        refine LoopEnd.mk ⟨(l2, j + 1, ext W 1 c), ⟨p2, hjl, fun r hr => ?_⟩, by show M - (j + 1) < M - j; omega, ?_⟩
        · rcases (show r = 0 ∨ r = 1 ∨ r = 2 by omega) with rfl | rfl | rfl <;> first | exact p3.trans (by rw [hW _ (by omega)]; rfl) | exact (p4 _ (by omega) (by omega)).trans (hW _ (by omega))
        · clear hQ
          have hlen := ext_len (W := W) (k := 1) (c := c)
          (refine Le.of ?_ ?_ <;> repeat' first | exact trivial | exact CEq.refl _ | exact rfl | exact cI (by push_cast; first | rfl | omega) | exact SubE.dat fun _ _ _ _ => CEq.refl _ | refine SubE.var2 ?_ ?_ | refine SubE.var1 ?_ | refine SubE.var3 ?_ ?_ ?_ | refine SubE.var4 ?_ ?_ ?_ ?_ | refine SubE.var5 ?_ ?_ ?_ ?_ ?_ | refine SubE.varN ?_ | refine Exists.intro _ (And.intro rfl ?_) | refine And.intro ?_ ?_)
          · exact ⟨rfl, rfl, id, id, fun r hr j hj => by
              have hj : j < 1 := hj
              have hr : r < 3 := hr
              obtain rfl : j = 0 := by omega
              rcases (show r = 0 ∨ r = 1 ∨ r = 2 by omega) with rfl | rfl | rfl <;> first | exact ⟨rfl, rfl, rfl, rfl, rfl⟩ | exact ⟨rfl, rfl, rfl, rfl, hlen.symm⟩⟩
          · exact ⟨rfl, hlen.symm, id, id, fun i hi j hj => ext_ceq rfl i hi j hj⟩
      · rw [e]
        clear e hu0
        obtain ⟨p1, p2, p3, p4⟩ := I.push (k := 2) (by omega) hcb (by omega)
        refine CallVC.mk' (fun _ => push_ok K.k l ((2 : Nat) : Int) c I.r.tiny) (fun _ => .cons ((.many fun j hj => by (rcases (show j = 0 ∨ j = 1 ∨ j = 2 by omega) with rfl | rfl | rfl <;> exact CEq.refl _))) (.cons (.one (CEq.refl _)) (.cons (.one (CEq.refl _)) .nil))) ?_
        rw [p1]
        generalize pushL l ((2 : Nat) : Int) c = l2 at *
        repeat' first
          | (with_reducible first | refine NeedI.mk (fun h => h) ?_ | refine NeedI.mk (fun h => h.2) ?_ | refine NeedI.mk (fun h => h.1) ?_ | (show Done; exact Done.mk) | refine Both.mk (fun _ => ?_) (fun _ => ?_) | refine Both2.mk (fun _ => ?_) ?_ | (refine Need.mk ?_ ?_; (first | omega | with_reducible exact CEq.refl _ | (dsimp only; omega) | (dsimp only [rng]; omega) | (simp only [decide_eq_true_eq, decide_eq_false_iff_not, Bool.or_eq_true, Bool.and_eq_true, Bool.or_eq_false_iff, Int.toNat_natCast, addN_eq, cond_false, cond_true, rng] at *; omega) | exact ⟨rfl, rfl⟩)))
          | ((with_reducible refine Need.mk ?_ ?_); exact CEq.refl _)
          | ((with_reducible fail_if_success first | refine LoopVC.mk ?_ | refine Need.mk ?_ ?_ | refine CallVC.mk ?_ | refine LoopEnd.mk ?_ | refine Out.mk ?_ | show False | refine NeedI.mk ?_ ?_); conv => whnf)
        · rename_i h; exact absurd h (by decide)
        have hl5 := hWl 2 (by omega)
        refine Need.mk (by show ((W 2).length + 1) * 8 ≤ 140737488355328 ∧ (W 2).length + 1 ≤ 140737488355328; omega) ?_
        repeat' first
          | (with_reducible first | refine NeedI.mk (fun h => h) ?_ | refine NeedI.mk (fun h => h.2) ?_ | refine NeedI.mk (fun h => h.1) ?_ | (show Done; exact Done.mk) | refine Both.mk (fun _ => ?_) (fun _ => ?_) | refine Both2.mk (fun _ => ?_) ?_ | (refine Need.mk ?_ ?_; (first | omega | with_reducible exact CEq.refl _ | (dsimp only; omega) | (dsimp only [rng]; omega) | (simp only [decide_eq_true_eq, decide_eq_false_iff_not, Bool.or_eq_true, Bool.and_eq_true, Bool.or_eq_false_iff, Int.toNat_natCast, addN_eq, cond_false, cond_true, rng] at *; omega) | exact ⟨rfl, rfl⟩)))
          | ((with_reducible refine Need.mk ?_ ?_); exact CEq.refl _)
          | ((with_reducible fail_if_success first | refine LoopVC.mk ?_ | refine Need.mk ?_ ?_ | refine CallVC.mk ?_ | refine LoopEnd.mk ?_ | refine Out.mk ?_ | show False | refine NeedI.mk ?_ ?_); conv => whnf)
        refine LoopEnd.mk ⟨(l2, j + 1, ext W 2 c), ⟨p2, hjl, fun r hr => ?_⟩, by show M - (j + 1) < M - j; omega, ?_⟩
        · rcases (show r = 0 ∨ r = 1 ∨ r = 2 by omega) with rfl | rfl | rfl <;> first | exact p3.trans (by rw [hW _ (by omega)]; rfl) | exact (p4 _ (by omega) (by omega)).trans (hW _ (by omega))
        · clear hQ
          have hlen := ext_len (W := W) (k := 2) (c := c)
          (refine Le.of ?_ ?_ <;> repeat' first | exact trivial | exact CEq.refl _ | exact rfl | exact cI (by push_cast; first | rfl | omega) | exact SubE.dat fun _ _ _ _ => CEq.refl _ | refine SubE.var2 ?_ ?_ | refine SubE.var1 ?_ | refine SubE.var3 ?_ ?_ ?_ | refine SubE.var4 ?_ ?_ ?_ ?_ | refine SubE.var5 ?_ ?_ ?_ ?_ ?_ | refine SubE.varN ?_ | refine Exists.intro _ (And.intro rfl ?_) | refine And.intro ?_ ?_)
          · exact ⟨rfl, rfl, id, id, fun r hr j hj => by
              have hj : j < 1 := hj
              have hr : r < 3 := hr
              obtain rfl : j = 0 := by omega
              rcases (show r = 0 ∨ r = 1 ∨ r = 2 by omega) with rfl | rfl | rfl <;> first | exact ⟨rfl, rfl, rfl, rfl, rfl⟩ | exact ⟨rfl, rfl, rfl, rfl, hlen.symm⟩⟩
          · exact ⟨rfl, hlen.symm, id, id, fun i hi j hj => ext_ceq rfl i hi j hj⟩
    rename_i hjl
    have hjl : j = M := by have := of_decide_eq_false hjl; omega
    subst hjl
    refine Out.mk (hQ _ _ ?_)
    clear hQ Q hj hst hz
    repeat' first
      | (with_reducible first | refine NeedI.mk (fun h => h) ?_ | refine NeedI.mk (fun h => h.2) ?_ | refine NeedI.mk (fun h => h.1) ?_ | (show Done; exact Done.mk) | refine Both.mk (fun _ => ?_) (fun _ => ?_) | refine Both2.mk (fun _ => ?_) ?_ | (refine Need.mk ?_ ?_; (first | omega | with_reducible exact CEq.refl _ | (dsimp only; omega) | (dsimp only [rng]; omega) | (simp only [decide_eq_true_eq, decide_eq_false_iff_not, Bool.or_eq_true, Bool.and_eq_true, Bool.or_eq_false_iff, Int.toNat_natCast, addN_eq, cond_false, cond_true, rng] at *; omega) | exact ⟨rfl, rfl⟩)))
      | ((with_reducible refine Need.mk ?_ ?_); exact CEq.refl _)
      | ((with_reducible fail_if_success first | refine LoopVC.mk ?_ | refine Need.mk ?_ ?_ | refine CallVC.mk ?_ | refine LoopEnd.mk ?_ | refine Out.mk ?_ | show False | refine NeedI.mk ?_ ?_); conv => whnf)
    refine LoopVC.inv (X := Ls × Nat × (Nat → List Int)) (fun x => x.2.1 ≤ j ∧ LA 3 (j - x.2.1) x.1 ∧ ∀ r, r < 3 → cA x.1 r = x.2.2 r)
      (fun x => stL [(5, .os 44 0 1 0 3), (7, .va 7 0 0), (9, .os 64 0 1 0 3), (108, .c (.int .i64 j)), (109, .c (.int .i64 x.2.1))]
        [(7, vE [.c (slL 3 lnE x.1.list), .c (.int .i64 x.1.at_), .c (.bool x.1.given)]), (44, ⟨1, 3, .dat fun r j => intE (w.getD r default) j, true, true⟩), (64, ⟨1, 3, .dat fun r _ => slL 1 intE (x.2.2 r), false, true⟩)]) (fun x => j - x.2.1) ⟨l, 0, W⟩ ⟨Nat.zero_le _, I, hW⟩ ?_ ?_
    · refine Le.trans (s2 := stL [(5, .os 44 0 1 0 3), (7, .va 7 0 0), (9, .os 64 0 1 0 3), (108, .c (.int .i64 j)), (109, .c (.int .i64 (0 : Nat)))]
        [(7, vE [.c (slL 3 lnE l.list), .c (.int .i64 l.at_), .c (.bool l.given)]), (44, ⟨1, 3, .dat fun r j => intE (w.getD r default) j, true, true⟩), (64, ⟨1, 3, wA W, false, true⟩), (2000, wEz W 0), (2001, wEz W 1), (2002, wEz W 2)]) ?_ ?_
      · (refine Le.of ?_ ?_ <;> repeat' first | exact trivial | exact CEq.refl _ | exact rfl | exact cI (by push_cast; first | rfl | omega) | exact SubE.dat fun _ _ _ _ => CEq.refl _ | refine SubE.var2 ?_ ?_ | refine SubE.var1 ?_ | refine SubE.var3 ?_ ?_ ?_ | refine SubE.var4 ?_ ?_ ?_ ?_ | refine SubE.var5 ?_ ?_ ?_ ?_ ?_ | refine SubE.varN ?_ | refine Exists.intro _ (And.intro rfl ?_) | refine And.intro ?_ ?_)
        all_goals first | exact ⟨rfl, rfl, fun _ => rfl, id, fun i hi j hj => CEq.refl _⟩ | exact ⟨rfl, rfl, id, id, fun r hr j hj => ⟨rfl, rfl, rfl, rfl, rfl⟩⟩
      (refine Le.ofN [] ?_ ?_ <;> repeat' first | exact trivial | exact SubF.inr ⟨_, _, _, rfl, rfl, rfl⟩ | exact SubF.inl (cI (by push_cast; first | rfl | omega)) | exact SubF.inl (CEq.refl _) | exact SubF.inl rfl | exact SubF.inl trivial | exact SubF.inl ⟨rfl, rfl, rfl⟩ | exact SubF.inl ⟨rfl, rfl, rfl, rfl, rfl⟩ | exact Or.inl ⟨rfl, rfl⟩ | refine Or.inr ⟨rfl, _, rfl, ?_⟩ | refine SubEF.var2 ?_ ?_ | refine SubEF.var1 ?_ | refine SubEF.var3 ?_ ?_ ?_ | refine SubEF.varN ?_ | refine SubEF.var4 ?_ ?_ ?_ ?_ | exact SubEF.of (SubE.dat fun _ _ _ _ => CEq.refl _) | refine And.intro ?_ ?_ | refine SubF.frz rfl rfl rfl rfl (Nat.le_of_eq (Nat.zero_add _)) rfl rfl ?_)
      exact ⟨rfl, rfl, id, id, fun r hr j hj => by
        have hj : j < 1 := hj
        have hr : r < 3 := hr
        obtain rfl : j = 0 := by omega
        rcases (show r = 0 ∨ r = 1 ∨ r = 2 by omega) with rfl | rfl | rfl <;> exact SubF.frz rfl rfl rfl rfl (Nat.le_of_eq (Nat.zero_add _)) rfl rfl (wE_ceq)⟩
    clear I hW
    rintro Q hQ ⟨l, k, W⟩ ⟨hk, I, hW⟩
    dsimp only at I hk hW
    dsimp only
    repeat' first
      | (with_reducible first | refine NeedI.mk (fun h => h) ?_ | refine NeedI.mk (fun h => h.2) ?_ | refine NeedI.mk (fun h => h.1) ?_ | (show Done; exact Done.mk) | refine Both.mk (fun _ => ?_) (fun _ => ?_) | refine Both2.mk (fun _ => ?_) ?_ | (refine Need.mk ?_ ?_; (first | omega | with_reducible exact CEq.refl _ | (dsimp only; omega) | (dsimp only [rng]; omega) | (simp only [decide_eq_true_eq, decide_eq_false_iff_not, Bool.or_eq_true, Bool.and_eq_true, Bool.or_eq_false_iff, Int.toNat_natCast, addN_eq, cond_false, cond_true, rng] at *; omega) | exact ⟨rfl, rfl⟩)))
      | ((with_reducible refine Need.mk ?_ ?_); exact CEq.refl _)
      | ((with_reducible fail_if_success first | refine LoopVC.mk ?_ | refine Need.mk ?_ ?_ | refine CallVC.mk ?_ | refine LoopEnd.mk ?_ | refine Out.mk ?_ | show False | refine NeedI.mk ?_ ?_); conv => whnf)
    · rename_i hkj
      have hkj : k < j := by have := of_decide_eq_true hkj; omega
      rw [show j - k = (j - (k + 1)) + 1 by omega] at I
      obtain ⟨n1, n2, q, n3, n4, n5, n6, n7, n8⟩ := I.next
      have hWq := hW q n4
      rw [hWq] at n5 n6 n7
      have hpos : 0 < (W q).length := List.length_pos_iff.2 n5
      refine CallVC.mk' (fun _ => next_ok K.k l I.r.tiny) (fun _ => .cons ((.many fun j hj => by (rcases (show j = 0 ∨ j = 1 ∨ j = 2 by omega) with rfl | rfl | rfl <;> exact CEq.refl _))) .nil) ?_
      rw [decide_eq_true n1, n3, n7]
      generalize nextL l = l2 at *
      repeat' first
        | (with_reducible first | refine NeedI.mk (fun h => h) ?_ | refine NeedI.mk (fun h => h.2) ?_ | refine NeedI.mk (fun h => h.1) ?_ | (show Done; exact Done.mk) | refine Both.mk (fun _ => ?_) (fun _ => ?_) | refine Both2.mk (fun _ => ?_) ?_ | (refine Need.mk ?_ ?_; (first | omega | with_reducible exact CEq.refl _ | (dsimp only; omega) | (dsimp only [rng]; omega) | (simp only [decide_eq_true_eq, decide_eq_false_iff_not, Bool.or_eq_true, Bool.and_eq_true, Bool.or_eq_false_iff, Int.toNat_natCast, addN_eq, cond_false, cond_true, rng] at *; omega) | exact ⟨rfl, rfl⟩)))
        | ((with_reducible refine Need.mk ?_ ?_); exact CEq.refl _)
        | ((with_reducible fail_if_success first | refine LoopVC.mk ?_ | refine Need.mk ?_ ?_ | refine CallVC.mk ?_ | refine LoopEnd.mk ?_ | refine Out.mk ?_ | show False | refine NeedI.mk ?_ ?_); conv => whnf)
      · rename_i h
        exfalso
        rw [Int.toNat_natCast, addN_eq, Nat.zero_add, decide_eq_false (show ¬ (q : Int) < 0 by omega), decide_eq_false (show ¬ ((3 : Nat) : Int) ≤ (q : Int) by omega), decide_eq_false (show ¬ ((W q).length : Int) = 0 by omega),
          decide_eq_true (show (W q).getD (Int.toNat 0) default = (W q).getD 0 default from rfl)] at h
        exact absurd h (by decide)
      refine LoopEnd.mk ⟨(l2, k + 1, fun r => if r = q then (W q).drop 1 else W r), ⟨hkj, n2, fun r hr => ?_⟩, by show j - (k + 1) < j - k; omega, ?_⟩
      · show cA l2 r = if r = q then (W q).drop 1 else W r
        by_cases e : r = q
        · rw [if_pos e, e]; exact n6
        · rw [if_neg e, n8 r hr e]; exact hW r hr
      · clear hQ
        (refine Le.of ?_ ?_ <;> repeat' first | exact trivial | exact CEq.refl _ | exact rfl | exact cI (by push_cast; first | rfl | omega) | exact SubE.dat fun _ _ _ _ => CEq.refl _ | refine SubE.var2 ?_ ?_ | refine SubE.var1 ?_ | refine SubE.var3 ?_ ?_ ?_ | refine SubE.var4 ?_ ?_ ?_ ?_ | refine SubE.var5 ?_ ?_ ?_ ?_ ?_ | refine SubE.varN ?_ | refine Exists.intro _ (And.intro rfl ?_) | refine And.intro ?_ ?_)
        exact SubE.dat fun r hr i hi => by
          have hi : i < 1 := hi
          obtain rfl : i = 0 := by omega
          exact pop_ceq hpos
    rename_i hkj
    have hkj : k = j := by have := of_decide_eq_false hkj; omega
    subst hkj
    rw [Nat.sub_self] at I
    refine Out.mk (hQ _ _ ?_)
    clear hQ Q
    repeat' first
      | (with_reducible first | refine NeedI.mk (fun h => h) ?_ | refine NeedI.mk (fun h => h.2) ?_ | refine NeedI.mk (fun h => h.1) ?_ | (show Done; exact Done.mk) | refine Both.mk (fun _ => ?_) (fun _ => ?_) | refine Both2.mk (fun _ => ?_) ?_ | (refine Need.mk ?_ ?_; (first | omega | with_reducible exact CEq.refl _ | (dsimp only; omega) | (dsimp only [rng]; omega) | (simp only [decide_eq_true_eq, decide_eq_false_iff_not, Bool.or_eq_true, Bool.and_eq_true, Bool.or_eq_false_iff, Int.toNat_natCast, addN_eq, cond_false, cond_true, rng] at *; omega) | exact ⟨rfl, rfl⟩)))
      | ((with_reducible refine Need.mk ?_ ?_); exact CEq.refl _)
      | ((with_reducible fail_if_success first | refine LoopVC.mk ?_ | refine Need.mk ?_ ?_ | refine CallVC.mk ?_ | refine LoopEnd.mk ?_ | refine Out.mk ?_ | show False | refine NeedI.mk ?_ ?_); conv => whnf)
    have hno := I.stop
    refine CallVC.mk' (fun _ => next_ok K.k l I.r.tiny) (fun _ => .cons ((.many fun j hj => by (rcases (show j = 0 ∨ j = 1 ∨ j = 2 by omega) with rfl | rfl | rfl <;> exact CEq.refl _))) .nil) ?_
    rw [decide_eq_false hno]
    repeat' first
      | (with_reducible first | refine NeedI.mk (fun h => h) ?_ | refine NeedI.mk (fun h => h.2) ?_ | refine NeedI.mk (fun h => h.1) ?_ | (show Done; exact Done.mk) | refine Both.mk (fun _ => ?_) (fun _ => ?_) | refine Both2.mk (fun _ => ?_) ?_ | (refine Need.mk ?_ ?_; (first | omega | with_reducible exact CEq.refl _ | (dsimp only; omega) | (dsimp only [rng]; omega) | (simp only [decide_eq_true_eq, decide_eq_false_iff_not, Bool.or_eq_true, Bool.and_eq_true, Bool.or_eq_false_iff, Int.toNat_natCast, addN_eq, cond_false, cond_true, rng] at *; omega) | exact ⟨rfl, rfl⟩)))
      | ((with_reducible refine Need.mk ?_ ?_); exact CEq.refl _)
      | ((with_reducible fail_if_success first | refine LoopVC.mk ?_ | refine Need.mk ?_ ?_ | refine CallVC.mk ?_ | refine LoopEnd.mk ?_ | refine Out.mk ?_ | show False | refine NeedI.mk ?_ ?_); conv => whnf)
    refine CallVC.mk' (fun _ => awake_ok K) (fun _ => .nil) ?_
    repeat' first
      | (with_reducible first | refine NeedI.mk (fun h => h) ?_ | refine NeedI.mk (fun h => h.2) ?_ | refine NeedI.mk (fun h => h.1) ?_ | (show Done; exact Done.mk) | refine Both.mk (fun _ => ?_) (fun _ => ?_) | refine Both2.mk (fun _ => ?_) ?_ | (refine Need.mk ?_ ?_; (first | omega | with_reducible exact CEq.refl _ | (dsimp only; omega) | (dsimp only [rng]; omega) | (simp only [decide_eq_true_eq, decide_eq_false_iff_not, Bool.or_eq_true, Bool.and_eq_true, Bool.or_eq_false_iff, Int.toNat_natCast, addN_eq, cond_false, cond_true, rng] at *; omega) | exact ⟨rfl, rfl⟩)))
      | ((with_reducible refine Need.mk ?_ ?_); exact CEq.refl _)
      | ((with_reducible fail_if_success first | refine LoopVC.mk ?_ | refine Need.mk ?_ ?_ | refine CallVC.mk ?_ | refine LoopEnd.mk ?_ | refine Out.mk ?_ | show False | refine NeedI.mk ?_ ?_); conv => whnf)
  · refine LoopVC.inv (X := Ls × Nat × (Nat → List Int)) (fun x => LA 4 x.2.1 x.1 ∧ x.2.1 ≤ M ∧ ∀ r, r < 4 → cA x.1 r = x.2.2 r)
      (fun x => stL [(5, .os 44 0 1 0 4), (7, .va 7 0 0), (9, .os 64 0 1 0 4), (10, .c (.int .i64 M)), (70, .c (.sl 2 M fun i j => u2E (costs.getD i default) j)), (71, .c (.int .i64 M)), (72, .c (.int .i64 x.2.1))]
        [(7, vE [.c (slL 3 lnE x.1.list), .c (.int .i64 x.1.at_), .c (.bool x.1.given)]), (44, ⟨1, 4, .dat fun r j => intE (w.getD r default) j, true, true⟩), (64, ⟨1, 4, wA x.2.2, false, true⟩), (2000, wE x.2.2 0), (2001, wE x.2.2 1), (2002, wE x.2.2 2), (2003, wE x.2.2 3)]) (fun x => M - x.2.1) ⟨l0, 0, fun _ => []⟩ ⟨hst, Nat.zero_le _, hz⟩ ?_ ?_
    · (refine Le.ofN [2000,2001,2002,2003] ?_ ?_ <;> repeat' first | exact trivial | exact SubF.inr ⟨_, _, _, rfl, rfl, rfl⟩ | exact SubF.inl (cI (by push_cast; first | rfl | omega)) | exact SubF.inl (CEq.refl _) | exact SubF.inl rfl | exact SubF.inl trivial | exact SubF.inl ⟨rfl, rfl, rfl⟩ | exact SubF.inl ⟨rfl, rfl, rfl, rfl, rfl⟩ | exact Or.inl ⟨rfl, rfl⟩ | refine Or.inr ⟨rfl, _, rfl, ?_⟩ | refine SubEF.var2 ?_ ?_ | refine SubEF.var1 ?_ | refine SubEF.var3 ?_ ?_ ?_ | refine SubEF.varN ?_ | refine SubEF.var4 ?_ ?_ ?_ ?_ | exact SubEF.of (SubE.dat fun _ _ _ _ => CEq.refl _) | refine And.intro ?_ ?_ | refine SubF.frz rfl rfl rfl rfl (Nat.le_of_eq (Nat.zero_add _)) rfl rfl ?_)
      exact ⟨rfl, rfl, id, id, fun r hr j hj => by
        have hj : j < 1 := hj
        have hr : r < 4 := hr
        obtain rfl : j = 0 := by omega
        rcases (show r = 0 ∨ r = 1 ∨ r = 2 ∨ r = 3 by omega) with rfl | rfl | rfl | rfl <;> exact SubF.inr ⟨_, _, _, rfl, rfl, rfl⟩⟩
    rintro Q hQ ⟨l, j, W⟩ ⟨I, hj, hW⟩
    dsimp only at I hj hW
    dsimp only
    repeat' first
      | (with_reducible first | refine NeedI.mk (fun h => h) ?_ | refine NeedI.mk (fun h => h.2) ?_ | refine NeedI.mk (fun h => h.1) ?_ | (show Done; exact Done.mk) | refine Both.mk (fun _ => ?_) (fun _ => ?_) | refine Both2.mk (fun _ => ?_) ?_ | (refine Need.mk ?_ ?_; (first | omega | with_reducible exact CEq.refl _ | (dsimp only; omega) | (dsimp only [rng]; omega) | (simp only [decide_eq_true_eq, decide_eq_false_iff_not, Bool.or_eq_true, Bool.and_eq_true, Bool.or_eq_false_iff, Int.toNat_natCast, addN_eq, cond_false, cond_true, rng] at *; omega) | exact ⟨rfl, rfl⟩)))
      | ((with_reducible refine Need.mk ?_ ?_); exact CEq.refl _)
      | ((with_reducible fail_if_success first | refine LoopVC.mk ?_ | refine Need.mk ?_ ?_ | refine CallVC.mk ?_ | refine LoopEnd.mk ?_ | refine Out.mk ?_ | show False | refine NeedI.mk ?_ ?_); conv => whnf)
    · rename_i hjl
      have hjl : j < M := by have := of_decide_eq_true hjl; omega
      have hu : ∀ u : UInt8, u.toNat < 256 := fun u => u.toNat_lt
      have hu0 := hu (costs.getD j default).1
      have hu1 := hu (costs.getD j default).2
      have hWl : ∀ r, r < 4 → (W r).length ≤ 150 := fun r hr => by
        have h5 := lft_le (l := l.list) (k := r) (by rw [I.nn]; exact hr)
        rw [I.ll] at h5
        rw [← hW r hr]
        show (l.list.getD r default).costs.length ≤ 150
        omega
      refine Need.mk rfl ?_
      repeat' first
        | (with_reducible first | refine NeedI.mk (fun h => h) ?_ | refine NeedI.mk (fun h => h.2) ?_ | refine NeedI.mk (fun h => h.1) ?_ | (show Done; exact Done.mk) | refine Both.mk (fun _ => ?_) (fun _ => ?_) | refine Both2.mk (fun _ => ?_) ?_ | (refine Need.mk ?_ ?_; (first | omega | with_reducible exact CEq.refl _ | (dsimp only; omega) | (dsimp only [rng]; omega) | (simp only [decide_eq_true_eq, decide_eq_false_iff_not, Bool.or_eq_true, Bool.and_eq_true, Bool.or_eq_false_iff, Int.toNat_natCast, addN_eq, cond_false, cond_true, rng] at *; omega) | exact ⟨rfl, rfl⟩)))
        | ((with_reducible refine Need.mk ?_ ?_); exact CEq.refl _)
        | ((with_reducible fail_if_success first | refine LoopVC.mk ?_ | refine Need.mk ?_ ?_ | refine CallVC.mk ?_ | refine LoopEnd.mk ?_ | refine Out.mk ?_ | show False | refine NeedI.mk ?_ ?_); conv => whnf)
      rw [Int.toNat_natCast]
      generalize (costs.getD j default).1.toNat = u0 at *
      generalize (costs.getD j default).2.toNat = u1 at *
      obtain ⟨c, hc⟩ : ∃ c : Int, 1 + (u1 : Int) % 8 = c := ⟨_, rfl⟩
      rw [hc]
      have hcb : 1 ≤ c ∧ c ≤ 8 := by omega
      clear hc hu hu1
      rcases (show (u0 : Int) % ((4 : Nat) : Int) = ((0 : Nat) : Int) ∨ (u0 : Int) % ((4 : Nat) : Int) = ((1 : Nat) : Int) ∨ (u0 : Int) % ((4 : Nat) : Int) = ((2 : Nat) : Int) ∨ (u0 : Int) % ((4 : Nat) : Int) = ((3 : Nat) : Int) by omega) with e | e | e | e
      · rw [e]
        clear e hu0
        obtain ⟨p1, p2, p3, p4⟩ := I.push (k := 0) (by omega) hcb (by omega)
        refine CallVC.mk' (fun _ => push_ok K.k l ((0 : Nat) : Int) c I.r.tiny) (fun _ => .cons ((.many fun j hj => by (rcases (show j = 0 ∨ j = 1 ∨ j = 2 by omega) with rfl | rfl | rfl <;> exact CEq.refl _))) (.cons (.one (CEq.refl _)) (.cons (.one (CEq.refl _)) .nil))) ?_
        rw [p1]
        generalize pushL l ((0 : Nat) : Int) c = l2 at *
        repeat' first
          | (with_reducible first | refine NeedI.mk (fun h => h) ?_ | refine NeedI.mk (fun h => h.2) ?_ | refine NeedI.mk (fun h => h.1) ?_ | (show Done; exact Done.mk) | refine Both.mk (fun _ => ?_) (fun _ => ?_) | refine Both2.mk (fun _ => ?_) ?_ | (refine Need.mk ?_ ?_; (first | omega | with_reducible exact CEq.refl _ | (dsimp only; omega) | (dsimp only [rng]; omega) | (simp only [decide_eq_true_eq, decide_eq_false_iff_not, Bool.or_eq_true, Bool.and_eq_true, Bool.or_eq_false_iff, Int.toNat_natCast, addN_eq, cond_false, cond_true, rng] at *; omega) | exact ⟨rfl, rfl⟩)))
          | ((with_reducible refine Need.mk ?_ ?_); exact CEq.refl _)
          | ((with_reducible fail_if_success first | refine LoopVC.mk ?_ | refine Need.mk ?_ ?_ | refine CallVC.mk ?_ | refine LoopEnd.mk ?_ | refine Out.mk ?_ | show False | refine NeedI.mk ?_ ?_); conv => whnf)
        · rename_i h; exact absurd h (by decide)
        have hl5 := hWl 0 (by omega)
        refine Need.mk (by show ((W 0).length + 1) * 8 ≤ 140737488355328 ∧ (W 0).length + 1 ≤ 140737488355328; omega) ?_
        repeat' first
          | (with_reducible first | refine NeedI.mk (fun h => h) ?_ | refine NeedI.mk (fun h => h.2) ?_ | refine NeedI.mk (fun h => h.1) ?_ | (show Done; exact Done.mk) | refine Both.mk (fun _ => ?_) (fun _ => ?_) | refine Both2.mk (fun _ => ?_) ?_ | (refine Need.mk ?_ ?_; (first | omega | with_reducible exact CEq.refl _ | (dsimp only; omega) | (dsimp only [rng]; omega) | (simp only [decide_eq_true_eq, decide_eq_false_iff_not, Bool.or_eq_true, Bool.and_eq_true, Bool.or_eq_false_iff, Int.toNat_natCast, addN_eq, cond_false, cond_true, rng] at *; omega) | exact ⟨rfl, rfl⟩)))
          | ((with_reducible refine Need.mk ?_ ?_); exact CEq.refl _)
          | ((with_reducible fail_if_success first | refine LoopVC.mk ?_ | refine Need.mk ?_ ?_ | refine CallVC.mk ?_ | refine LoopEnd.mk ?_ | refine Out.mk ?_ | show False | refine NeedI.mk ?_ ?_); conv => whnf)
        refine LoopEnd.mk ⟨(l2, j + 1, ext W 0 c), ⟨p2, hjl, fun r hr => ?_⟩, by show M - (j + 1) < M - j; omega, ?_⟩
        · rcases (show r = 0 ∨ r = 1 ∨ r = 2 ∨ r = 3 by omega) with rfl | rfl | rfl | rfl <;> first | exact p3.trans (by rw [hW _ (by omega)]; rfl) | exact (p4 _ (by omega) (by omega)).trans (hW _ (by omega))
        · clear hQ
          have hlen := ext_len (W := W) (k := 0) (c := c)
          (refine Le.of ?_ ?_ <;> repeat' first | exact trivial | exact CEq.refl _ | exact rfl | exact cI (by push_cast; first | rfl | omega) | exact SubE.dat fun _ _ _ _ => CEq.refl _ | refine SubE.var2 ?_ ?_ | refine SubE.var1 ?_ | refine SubE.var3 ?_ ?_ ?_ | refine SubE.var4 ?_ ?_ ?_ ?_ | refine SubE.var5 ?_ ?_ ?_ ?_ ?_ | refine SubE.varN ?_ | refine Exists.intro _ (And.intro rfl ?_) | refine And.intro ?_ ?_)
          · exact ⟨rfl, rfl, id, id, fun r hr j hj => by
              have hj : j < 1 := hj
              have hr : r < 4 := hr
              obtain rfl : j = 0 := by omega
              rcases (show r = 0 ∨ r = 1 ∨ r = 2 ∨ r = 3 by omega) with rfl | rfl | rfl | rfl <;> first | exact ⟨rfl, rfl, rfl, rfl, rfl⟩ | exact ⟨rfl, rfl, rfl, rfl, hlen.symm⟩⟩
          · exact ⟨rfl, hlen.symm, id, id, fun i hi j hj => ext_ceq rfl i hi j hj⟩
      · rw [e]
        clear e hu0
        obtain ⟨p1, p2, p3, p4⟩ := I.push (k := 1) (by omega) hcb (by omega)
        refine CallVC.mk' (fun _ => push_ok K.k l ((1 : Nat) : Int) c I.r.tiny) (fun _ => .cons ((.many fun j hj => by (rcases (show j = 0 ∨ j = 1 ∨ j = 2 by omega) with rfl | rfl | rfl <;> exact CEq.refl _))) (.cons (.one (CEq.refl _)) (.cons (.one (CEq.refl _)) .nil))) ?_
        rw [p1]
        generalize pushL l ((1 : Nat) : Int) c = l2 at *
        repeat' first
          | (with_reducible first | refine NeedI.mk (fun h => h) ?_ | refine NeedI.mk (fun h => h.2) ?_ | refine NeedI.mk (fun h => h.1) ?_ | (show Done; exact Done.mk) | refine Both.mk (fun _ => ?_) (fun _ => ?_) | refine Both2.mk (fun _ => ?_) ?_ | (refine Need.mk ?_ ?_; (first | omega | with_reducible exact CEq.refl _ | (dsimp only; omega) | (dsimp only [rng]; omega) | (simp only [decide_eq_true_eq, decide_eq_false_iff_not, Bool.or_eq_true, Bool.and_eq_true, Bool.or_eq_false_iff, Int.toNat_natCast, addN_eq, cond_false, cond_true, rng] at *; omega) | exact ⟨rfl, rfl⟩)))
          | ((with_reducible refine Need.mk ?_ ?_); exact CEq.refl _)
          | ((with_reducible fail_if_success first | refine LoopVC.mk ?_ | refine Need.mk ?_ ?_ | refine CallVC.mk ?_ | refine LoopEnd.mk ?_ | refine Out.mk ?_ | show False | refine NeedI.mk ?_ ?_); conv => whnf)
        · rename_i h; exact absurd h (by decide)
        have hl5 := hWl 1 (by omega)
        refine Need.mk (by show ((W 1).length + 1) * 8 ≤ 140737488355328 ∧ (W 1).length + 1 ≤ 140737488355328; omega) ?_
        repeat' first
          | (with_reducible first | refine NeedI.mk (fun h => h) ?_ | refine NeedI.mk (fun h => h.2) ?_ | refine NeedI.mk (fun h => h.1) ?_ | (show Done; exact Done.mk) | refine Both.mk (fun _ => ?_) (fun _ => ?_) | refine Both2.mk (fun _ => ?_) ?_ | (refine Need.mk ?_ ?_; (first | omega | with_reducible exact CEq.refl _ | (dsimp only; omega) | (dsimp only [rng]; omega) | (simp only [decide_eq_true_eq, decide_eq_false_iff_not, Bool.or_eq_true, Bool.and_eq_true, Bool.or_eq_false_iff, Int.toNat_natCast, addN_eq, cond_false, cond_true, rng] at *; omega) | exact ⟨rfl, rfl⟩)))
          | ((with_reducible refine Need.mk ?_ ?_); exact CEq.refl _)
          | ((with_reducible fail_if_success first | refine LoopVC.mk ?_ | refine Need.mk ?_ ?_ | refine CallVC.mk ?_ | refine LoopEnd.mk ?_ | refine Out.mk ?_ | show False | refine NeedI.mk ?_ ?_); conv => whnf)
        refine LoopEnd.mk ⟨(l2, j + 1, ext W 1 c), ⟨p2, hjl, fun r hr => ?_⟩, by show M - (j + 1) < M - j; omega, ?_⟩
        · rcases (show r = 0 ∨ r = 1 ∨ r = 2 ∨ r = 3 by omega) with rfl | rfl | rfl | rfl <;> first | exact p3.trans (by rw [hW _ (by omega)]; rfl) | exact (p4 _ (by omega) (by omega)).trans (hW _ (by omega))
        · clear hQ
          have hlen := ext_len (W := W) (k := 1) (c := c)
          (refine Le.of ?_ ?_ <;> repeat' first | exact trivial | exact CEq.refl _ | exact rfl | exact cI (by push_cast; first | rfl | omega) | exact SubE.dat fun _ _ _ _ => CEq.refl _ | refine SubE.var2 ?_ ?_ | refine SubE.var1 ?_ | refine SubE.var3 ?_ ?_ ?_ | refine SubE.var4 ?_ ?_ ?_ ?_ | refine SubE.var5 ?_ ?_ ?_ ?_ ?_ | refine SubE.varN ?_ | refine Exists.intro _ (And.intro rfl ?_) | refine And.intro ?_ ?_)
          · exact ⟨rfl, rfl, id, id, fun r hr j hj => by
              have hj : j < 1 := hj
              have hr : r < 4 := hr
              obtain rfl : j = 0 := by omega
              rcases (show r = 0 ∨ r = 1 ∨ r = 2 ∨ r = 3 by omega) with rfl | rfl | rfl | rfl <;> first | exact ⟨rfl, rfl, rfl, rfl, rfl⟩ | exact ⟨rfl, rfl, rfl, rfl, hlen.symm⟩⟩
          · exact ⟨rfl, hlen.symm, id, id, fun i hi j hj => ext_ceq rfl i hi j hj⟩
      · rw [e]
        clear e hu0
        obtain ⟨p1, p2, p3, p4⟩ := I.push (k := 2) (by omega) hcb (by omega)
        refine CallVC.mk' (fun _ => push_ok K.k l ((2 : Nat) : Int) c I.r.tiny) (fun _ => .cons ((.many fun j hj => by (rcases (show j = 0 ∨ j = 1 ∨ j = 2 by omega) with rfl | rfl | rfl <;> exact CEq.refl _))) (.cons (.one (CEq.refl _)) (.cons (.one (CEq.refl _)) .nil))) ?_
        rw [p1]
        generalize pushL l ((2 : Nat) : Int) c = l2 at *
        repeat' first
          | (with_reducible first | refine NeedI.mk (fun h => h) ?_ | refine NeedI.mk (fun h => h.2) ?_ | refine NeedI.mk (fun h => h.1) ?_ | (show Done; exact Done.mk) | refine Both.mk (fun _ => ?_) (fun _ => ?_) | refine Both2.mk (fun _ => ?_) ?_ | (refine Need.mk ?_ ?_; (first | omega | with_reducible exact CEq.refl _ | (dsimp only; omega) | (dsimp only [rng]; omega) | (simp only [decide_eq_true_eq, decide_eq_false_iff_not, Bool.or_eq_true, Bool.and_eq_true, Bool.or_eq_false_iff, Int.toNat_natCast, addN_eq, cond_false, cond_true, rng] at *; omega) | exact ⟨rfl, rfl⟩)))
          | ((with_reducible refine Need.mk ?_ ?_); exact CEq.refl _)
          | ((with_reducible fail_if_success first | refine LoopVC.mk ?_ | refine Need.mk ?_ ?_ | refine CallVC.mk ?_ | refine LoopEnd.mk ?_ | refine Out.mk ?_ | show False | refine NeedI.mk ?_ ?_); conv => whnf)
        · rename_i h; exact absurd h (by decide)
        have hl5 := hWl 2 (by omega)
        refine Need.mk (by show ((W 2).length + 1) * 8 ≤ 140737488355328 ∧ (W 2).length + 1 ≤ 140737488355328; omega) ?_
        repeat' first
          | (with_reducible first | refine NeedI.mk (fun h => h) ?_ | refine NeedI.mk (fun h => h.2) ?_ | refine NeedI.mk (fun h => h.1) ?_ | (show Done; exact Done.mk) | refine Both.mk (fun _ => ?_) (fun _ => ?_) | refine Both2.mk (fun _ => ?_) ?_ | (refine Need.mk ?_ ?_; (first | omega | with_reducible exact CEq.refl _ | (dsimp only; omega) | (dsimp only [rng]; omega) | (simp only [decide_eq_true_eq, decide_eq_false_iff_not, Bool.or_eq_true, Bool.and_eq_true, Bool.or_eq_false_iff, Int.toNat_natCast, addN_eq, cond_false, cond_true, rng] at *; omega) | exact ⟨rfl, rfl⟩)))
          | ((with_reducible refine Need.mk ?_ ?_); exact CEq.refl _)
          | ((with_reducible fail_if_success first | refine LoopVC.mk ?_ | refine Need.mk ?_ ?_ | refine CallVC.mk ?_ | refine LoopEnd.mk ?_ | refine Out.mk ?_ | show False | refine NeedI.mk ?_ ?_); conv => whnf)
        refine LoopEnd.mk ⟨(l2, j + 1, ext W 2 c), ⟨p2, hjl, fun r hr => ?_⟩, by show M - (j + 1) < M - j; omega, ?_⟩
        · rcases (show r = 0 ∨ r = 1 ∨ r = 2 ∨ r = 3 by omega) with rfl | rfl | rfl | rfl <;> first | exact p3.trans (by rw [hW _ (by omega)]; rfl) | exact (p4 _ (by omega) (by omega)).trans (hW _ (by omega))
        · clear hQ
          have hlen := ext_len (W := W) (k := 2) (c := c)
          (refine Le.of ?_ ?_ <;> repeat' first | exact trivial | exact CEq.refl _ | exact rfl | exact cI (by push_cast; first | rfl | omega) | exact SubE.dat fun _ _ _ _ => CEq.refl _ | refine SubE.var2 ?_ ?_ | refine SubE.var1 ?_ | refine SubE.var3 ?_ ?_ ?_ | refine SubE.var4 ?_ ?_ ?_ ?_ | refine SubE.var5 ?_ ?_ ?_ ?_ ?_ | refine SubE.varN ?_ | refine Exists.intro _ (And.intro rfl ?_) | refine And.intro ?_ ?_)
          · exact ⟨rfl, rfl, id, id, fun r hr j hj => by
              have hj : j < 1 := hj
              have hr : r < 4 := hr
              obtain rfl : j = 0 := by omega
              rcases (show r = 0 ∨ r = 1 ∨ r = 2 ∨ r = 3 by omega) with rfl | rfl | rfl | rfl <;> first | exact ⟨rfl, rfl, rfl, rfl, rfl⟩ | exact ⟨rfl, rfl, rfl, rfl, hlen.symm⟩⟩
          · exact ⟨rfl, hlen.symm, id, id, fun i hi j hj => ext_ceq rfl i hi j hj⟩
      · rw [e]
        clear e hu0
        obtain ⟨p1, p2, p3, p4⟩ := I.push (k := 3) (by omega) hcb (by omega)
        refine CallVC.mk' (fun _ => push_ok K.k l ((3 : Nat) : Int) c I.r.tiny) (fun _ => .cons ((.many fun j hj => by (rcases (show j = 0 ∨ j = 1 ∨ j = 2 by omega) with rfl | rfl | rfl <;> exact CEq.refl _))) (.cons (.one (CEq.refl _)) (.cons (.one (CEq.refl _)) .nil))) ?_
        rw [p1]
        generalize pushL l ((3 : Nat) : Int) c = l2 at *
        repeat' first
          | (with_reducible first | refine NeedI.mk (fun h => h) ?_ | refine NeedI.mk (fun h => h.2) ?_ | refine NeedI.mk (fun h => h.1) ?_ | (show Done; exact Done.mk) | refine Both.mk (fun _ => ?_) (fun _ => ?_) | refine Both2.mk (fun _ => ?_) ?_ | (refine Need.mk ?_ ?_; (first | omega | with_reducible exact CEq.refl _ | (dsimp only; omega) | (dsimp only [rng]; omega) | (simp only [decide_eq_true_eq, decide_eq_false_iff_not, Bool.or_eq_true, Bool.and_eq_true, Bool.or_eq_false_iff, Int.toNat_natCast, addN_eq, cond_false, cond_true, rng] at *; omega) | exact ⟨rfl, rfl⟩)))
          | ((with_reducible refine Need.mk ?_ ?_); exact CEq.refl _)
          | ((with_reducible fail_if_success first | refine LoopVC.mk ?_ | refine Need.mk ?_ ?_ | refine CallVC.mk ?_ | refine LoopEnd.mk ?_ | refine Out.mk ?_ | show False | refine NeedI.mk ?_ ?_); conv => whnf)
        · rename_i h; exact absurd h (by decide)
        have hl5 := hWl 3 (by omega)
        refine Need.mk (by show ((W 3).length + 1) * 8 ≤ 140737488355328 ∧ (W 3).length + 1 ≤ 140737488355328; omega) ?_
        repeat' first
          | (with_reducible first | refine NeedI.mk (fun h => h) ?_ | refine NeedI.mk (fun h => h.2) ?_ | refine NeedI.mk (fun h => h.1) ?_ | (show Done; exact Done.mk) | refine Both.mk (fun _ => ?_) (fun _ => ?_) | refine Both2.mk (fun _ => ?_) ?_ | (refine Need.mk ?_ ?_; (first | omega | with_reducible exact CEq.refl _ | (dsimp only; omega) | (dsimp only [rng]; omega) | (simp only [decide_eq_true_eq, decide_eq_false_iff_not, Bool.or_eq_true, Bool.and_eq_true, Bool.or_eq_false_iff, Int.toNat_natCast, addN_eq, cond_false, cond_true, rng] at *; omega) | exact ⟨rfl, rfl⟩)))
          | ((with_reducible refine Need.mk ?_ ?_); exact CEq.refl _)
          | ((with_reducible fail_if_success first | refine LoopVC.mk ?_ | refine Need.mk ?_ ?_ | refine CallVC.mk ?_ | refine LoopEnd.mk ?_ | refine Out.mk ?_ | show False | refine NeedI.mk ?_ ?_); conv => whnf)
        refine LoopEnd.mk ⟨(l2, j + 1, ext W 3 c), ⟨p2, hjl, fun r hr => ?_⟩, by show M - (j + 1) < M - j; omega, ?_⟩
        · rcases (show r = 0 ∨ r = 1 ∨ r = 2 ∨ r = 3 by omega) with rfl | rfl | rfl | rfl <;> first | exact p3.trans (by rw [hW _ (by omega)]; rfl) | exact (p4 _ (by omega) (by omega)).trans (hW _ (by omega))
        · clear hQ
          have hlen := ext_len (W := W) (k := 3) (c := c)
          (refine Le.of ?_ ?_ <;> repeat' first | exact trivial | exact CEq.refl _ | exact rfl | exact cI (by push_cast; first | rfl | omega) | exact SubE.dat fun _ _ _ _ => CEq.refl _ | refine SubE.var2 ?_ ?_ | refine SubE.var1 ?_ | refine SubE.var3 ?_ ?_ ?_ | refine SubE.var4 ?_ ?_ ?_ ?_ | refine SubE.var5 ?_ ?_ ?_ ?_ ?_ | refine SubE.varN ?_ | refine Exists.intro _ (And.intro rfl ?_) | refine And.intro ?_ ?_)
          · exact ⟨rfl, rfl, id, id, fun r hr j hj => by
              have hj : j < 1 := hj
              have hr : r < 4 := hr
              obtain rfl : j = 0 := by omega
              rcases (show r = 0 ∨ r = 1 ∨ r = 2 ∨ r = 3 by omega) with rfl | rfl | rfl | rfl <;> first | exact ⟨rfl, rfl, rfl, rfl, rfl⟩ | exact ⟨rfl, rfl, rfl, rfl, hlen.symm⟩⟩
          · exact ⟨rfl, hlen.symm, id, id, fun i hi j hj => ext_ceq rfl i hi j hj⟩
    rename_i hjl
    have hjl : j = M := by have := of_decide_eq_false hjl; omega
    subst hjl
    refine Out.mk (hQ _ _ ?_)
    clear hQ Q hj hst hz
    repeat' first
      | (with_reducible first | refine NeedI.mk (fun h => h) ?_ | refine NeedI.mk (fun h => h.2) ?_ | refine NeedI.mk (fun h => h.1) ?_ | (show Done; exact Done.mk) | refine Both.mk (fun _ => ?_) (fun _ => ?_) | refine Both2.mk (fun _ => ?_) ?_ | (refine Need.mk ?_ ?_; (first | omega | with_reducible exact CEq.refl _ | (dsimp only; omega) | (dsimp only [rng]; omega) | (simp only [decide_eq_true_eq, decide_eq_false_iff_not, Bool.or_eq_true, Bool.and_eq_true, Bool.or_eq_false_iff, Int.toNat_natCast, addN_eq, cond_false, cond_true, rng] at *; omega) | exact ⟨rfl, rfl⟩)))
      | ((with_reducible refine Need.mk ?_ ?_); exact CEq.refl _)
      | ((with_reducible fail_if_success first | refine LoopVC.mk ?_ | refine Need.mk ?_ ?_ | refine CallVC.mk ?_ | refine LoopEnd.mk ?_ | refine Out.mk ?_ | show False | refine NeedI.mk ?_ ?_); conv => whnf)
    refine LoopVC.inv (X := Ls × Nat × (Nat → List Int)) (fun x => x.2.1 ≤ j ∧ LA 4 (j - x.2.1) x.1 ∧ ∀ r, r < 4 → cA x.1 r = x.2.2 r)
      (fun x => stL [(5, .os 44 0 1 0 4), (7, .va 7 0 0), (9, .os 64 0 1 0 4), (108, .c (.int .i64 j)), (109, .c (.int .i64 x.2.1))]
        [(7, vE [.c (slL 3 lnE x.1.list), .c (.int .i64 x.1.at_), .c (.bool x.1.given)]), (44, ⟨1, 4, .dat fun r j => intE (w.getD r default) j, true, true⟩), (64, ⟨1, 4, .dat fun r _ => slL 1 intE (x.2.2 r), false, true⟩)]) (fun x => j - x.2.1) ⟨l, 0, W⟩ ⟨Nat.zero_le _, I, hW⟩ ?_ ?_
    · refine Le.trans (s2 := stL [(5, .os 44 0 1 0 4), (7, .va 7 0 0), (9, .os 64 0 1 0 4), (108, .c (.int .i64 j)), (109, .c (.int .i64 (0 : Nat)))]
        [(7, vE [.c (slL 3 lnE l.list), .c (.int .i64 l.at_), .c (.bool l.given)]), (44, ⟨1, 4, .dat fun r j => intE (w.getD r default) j, true, true⟩), (64, ⟨1, 4, wA W, false, true⟩), (2000, wEz W 0), (2001, wEz W 1), (2002, wEz W 2), (2003, wEz W 3)]) ?_ ?_
      · (refine Le.of ?_ ?_ <;> repeat' first | exact trivial | exact CEq.refl _ | exact rfl | exact cI (by push_cast; first | rfl | omega) | exact SubE.dat fun _ _ _ _ => CEq.refl _ | refine SubE.var2 ?_ ?_ | refine SubE.var1 ?_ | refine SubE.var3 ?_ ?_ ?_ | refine SubE.var4 ?_ ?_ ?_ ?_ | refine SubE.var5 ?_ ?_ ?_ ?_ ?_ | refine SubE.varN ?_ | refine Exists.intro _ (And.intro rfl ?_) | refine And.intro ?_ ?_)
        all_goals first | exact ⟨rfl, rfl, fun _ => rfl, id, fun i hi j hj => CEq.refl _⟩ | exact ⟨rfl, rfl, id, id, fun r hr j hj => ⟨rfl, rfl, rfl, rfl, rfl⟩⟩
      (refine Le.ofN [] ?_ ?_ <;> repeat' first | exact trivial | exact SubF.inr ⟨_, _, _, rfl, rfl, rfl⟩ | exact SubF.inl (cI (by push_cast; first | rfl | omega)) | exact SubF.inl (CEq.refl _) | exact SubF.inl rfl | exact SubF.inl trivial | exact SubF.inl ⟨rfl, rfl, rfl⟩ | exact SubF.inl ⟨rfl, rfl, rfl, rfl, rfl⟩ | exact Or.inl ⟨rfl, rfl⟩ | refine Or.inr ⟨rfl, _, rfl, ?_⟩ | refine SubEF.var2 ?_ ?_ | refine SubEF.var1 ?_ | refine SubEF.var3 ?_ ?_ ?_ | refine SubEF.varN ?_ | refine SubEF.var4 ?_ ?_ ?_ ?_ | exact SubEF.of (SubE.dat fun _ _ _ _ => CEq.refl _) | refine And.intro ?_ ?_ | refine SubF.frz rfl rfl rfl rfl (Nat.le_of_eq (Nat.zero_add _)) rfl rfl ?_)
      exact ⟨rfl, rfl, id, id, fun r hr j hj => by
        have hj : j < 1 := hj
        have hr : r < 4 := hr
        obtain rfl : j = 0 := by omega
        rcases (show r = 0 ∨ r = 1 ∨ r = 2 ∨ r = 3 by omega) with rfl | rfl | rfl | rfl <;> exact SubF.frz rfl rfl rfl rfl (Nat.le_of_eq (Nat.zero_add _)) rfl rfl (wE_ceq)⟩
    clear I hW
    rintro Q hQ ⟨l, k, W⟩ ⟨hk, I, hW⟩
    dsimp only at I hk hW
    dsimp only
    repeat' first
      | (with_reducible first | refine NeedI.mk (fun h => h) ?_ | refine NeedI.mk (fun h => h.2) ?_ | refine NeedI.mk (fun h => h.1) ?_ | (show Done; exact Done.mk) | refine Both.mk (fun _ => ?_) (fun _ => ?_) | refine Both2.mk (fun _ => ?_) ?_ | (refine Need.mk ?_ ?_; (first | omega | with_reducible exact CEq.refl _ | (dsimp only; omega) | (dsimp only [rng]; omega) | (simp only [decide_eq_true_eq, decide_eq_false_iff_not, Bool.or_eq_true, Bool.and_eq_true, Bool.or_eq_false_iff, Int.toNat_natCast, addN_eq, cond_false, cond_true, rng] at *; omega) | exact ⟨rfl, rfl⟩)))
      | ((with_reducible refine Need.mk ?_ ?_); exact CEq.refl _)
      | ((with_reducible fail_if_success first | refine LoopVC.mk ?_ | refine Need.mk ?_ ?_ | refine CallVC.mk ?_ | refine LoopEnd.mk ?_ | refine Out.mk ?_ | show False | refine NeedI.mk ?_ ?_); conv => whnf)
    · rename_i hkj
      have hkj : k < j := by have := of_decide_eq_true hkj; omega
      rw [show j - k = (j - (k + 1)) + 1 by omega] at I
      obtain ⟨n1, n2, q, n3, n4, n5, n6, n7, n8⟩ := I.next
      have hWq := hW q n4
      rw [hWq] at n5 n6 n7
      have hpos : 0 < (W q).length := List.length_pos_iff.2 n5
      refine CallVC.mk' (fun _ => next_ok K.k l I.r.tiny) (fun _ => .cons ((.many fun j hj => by (rcases (show j = 0 ∨ j = 1 ∨ j = 2 by omega) with rfl | rfl | rfl <;> exact CEq.refl _))) .nil) ?_
      rw [decide_eq_true n1, n3, n7]
      generalize nextL l = l2 at *
      repeat' first
        | (with_reducible first | refine NeedI.mk (fun h => h) ?_ | refine NeedI.mk (fun h => h.2) ?_ | refine NeedI.mk (fun h => h.1) ?_ | (show Done; exact Done.mk) | refine Both.mk (fun _ => ?_) (fun _ => ?_) | refine Both2.mk (fun _ => ?_) ?_ | (refine Need.mk ?_ ?_; (first | omega | with_reducible exact CEq.refl _ | (dsimp only; omega) | (dsimp only [rng]; omega) | (simp only [decide_eq_true_eq, decide_eq_false_iff_not, Bool.or_eq_true, Bool.and_eq_true, Bool.or_eq_false_iff, Int.toNat_natCast, addN_eq, cond_false, cond_true, rng] at *; omega) | exact ⟨rfl, rfl⟩)))
        | ((with_reducible refine Need.mk ?_ ?_); exact CEq.refl _)
        | ((with_reducible fail_if_success first | refine LoopVC.mk ?_ | refine Need.mk ?_ ?_ | refine CallVC.mk ?_ | refine LoopEnd.mk ?_ | refine Out.mk ?_ | show False | refine NeedI.mk ?_ ?_); conv => whnf)
      · rename_i h
        exfalso
        rw [Int.toNat_natCast, addN_eq, Nat.zero_add, decide_eq_false (show ¬ (q : Int) < 0 by omega), decide_eq_false (show ¬ ((4 : Nat) : Int) ≤ (q : Int) by omega), decide_eq_false (show ¬ ((W q).length : Int) = 0 by omega),
          decide_eq_true (show (W q).getD (Int.toNat 0) default = (W q).getD 0 default from rfl)] at h
        exact absurd h (by decide)
      refine LoopEnd.mk ⟨(l2, k + 1, fun r => if r = q then (W q).drop 1 else W r), ⟨hkj, n2, fun r hr => ?_⟩, by show j - (k + 1) < j - k; omega, ?_⟩
      · show cA l2 r = if r = q then (W q).drop 1 else W r
        by_cases e : r = q
        · rw [if_pos e, e]; exact n6
        · rw [if_neg e, n8 r hr e]; exact hW r hr
      · clear hQ
        (refine Le.of ?_ ?_ <;> repeat' first | exact trivial | exact CEq.refl _ | exact rfl | exact cI (by push_cast; first | rfl | omega) | exact SubE.dat fun _ _ _ _ => CEq.refl _ | refine SubE.var2 ?_ ?_ | refine SubE.var1 ?_ | refine SubE.var3 ?_ ?_ ?_ | refine SubE.var4 ?_ ?_ ?_ ?_ | refine SubE.var5 ?_ ?_ ?_ ?_ ?_ | refine SubE.varN ?_ | refine Exists.intro _ (And.intro rfl ?_) | refine And.intro ?_ ?_)
        exact SubE.dat fun r hr i hi => by
          have hi : i < 1 := hi
          obtain rfl : i = 0 := by omega
          exact pop_ceq hpos
    rename_i hkj
    have hkj : k = j := by have := of_decide_eq_false hkj; omega
    subst hkj
    rw [Nat.sub_self] at I
    refine Out.mk (hQ _ _ ?_)
    clear hQ Q
    repeat' first
      | (with_reducible first | refine NeedI.mk (fun h => h) ?_ | refine NeedI.mk (fun h => h.2) ?_ | refine NeedI.mk (fun h => h.1) ?_ | (show Done; exact Done.mk) | refine Both.mk (fun _ => ?_) (fun _ => ?_) | refine Both2.mk (fun _ => ?_) ?_ | (refine Need.mk ?_ ?_; (first | omega | with_reducible exact CEq.refl _ | (dsimp only; omega) | (dsimp only [rng]; omega) | (simp only [decide_eq_true_eq, decide_eq_false_iff_not, Bool.or_eq_true, Bool.and_eq_true, Bool.or_eq_false_iff, Int.toNat_natCast, addN_eq, cond_false, cond_true, rng] at *; omega) | exact ⟨rfl, rfl⟩)))
      | ((with_reducible refine Need.mk ?_ ?_); exact CEq.refl _)
      | ((with_reducible fail_if_success first | refine LoopVC.mk ?_ | refine Need.mk ?_ ?_ | refine CallVC.mk ?_ | refine LoopEnd.mk ?_ | refine Out.mk ?_ | show False | refine NeedI.mk ?_ ?_); conv => whnf)
    have hno := I.stop
    refine CallVC.mk' (fun _ => next_ok K.k l I.r.tiny) (fun _ => .cons ((.many fun j hj => by (rcases (show j = 0 ∨ j = 1 ∨ j = 2 by omega) with rfl | rfl | rfl <;> exact CEq.refl _))) .nil) ?_
    rw [decide_eq_false hno]
    repeat' first
      | (with_reducible first | refine NeedI.mk (fun h => h) ?_ | refine NeedI.mk (fun h => h.2) ?_ | refine NeedI.mk (fun h => h.1) ?_ | (show Done; exact Done.mk) | refine Both.mk (fun _ => ?_) (fun _ => ?_) | refine Both2.mk (fun _ => ?_) ?_ | (refine Need.mk ?_ ?_; (first | omega | with_reducible exact CEq.refl _ | (dsimp only; omega) | (dsimp only [rng]; omega) | (simp only [decide_eq_true_eq, decide_eq_false_iff_not, Bool.or_eq_true, Bool.and_eq_true, Bool.or_eq_false_iff, Int.toNat_natCast, addN_eq, cond_false, cond_true, rng] at *; omega) | exact ⟨rfl, rfl⟩)))
      | ((with_reducible refine Need.mk ?_ ?_); exact CEq.refl _)
      | ((with_reducible fail_if_success first | refine LoopVC.mk ?_ | refine Need.mk ?_ ?_ | refine CallVC.mk ?_ | refine LoopEnd.mk ?_ | refine Out.mk ?_ | show False | refine NeedI.mk ?_ ?_); conv => whnf)
    refine CallVC.mk' (fun _ => awake_ok K) (fun _ => .nil) ?_
    repeat' first
      | (with_reducible first | refine NeedI.mk (fun h => h) ?_ | refine NeedI.mk (fun h => h.2) ?_ | refine NeedI.mk (fun h => h.1) ?_ | (show Done; exact Done.mk) | refine Both.mk (fun _ => ?_) (fun _ => ?_) | refine Both2.mk (fun _ => ?_) ?_ | (refine Need.mk ?_ ?_; (first | omega | with_reducible exact CEq.refl _ | (dsimp only; omega) | (dsimp only [rng]; omega) | (simp only [decide_eq_true_eq, decide_eq_false_iff_not, Bool.or_eq_true, Bool.and_eq_true, Bool.or_eq_false_iff, Int.toNat_natCast, addN_eq, cond_false, cond_true, rng] at *; omega) | exact ⟨rfl, rfl⟩)))
      | ((with_reducible refine Need.mk ?_ ?_); exact CEq.refl _)
      | ((with_reducible fail_if_success first | refine LoopVC.mk ?_ | refine Need.mk ?_ ?_ | refine CallVC.mk ?_ | refine LoopEnd.mk ?_ | refine Out.mk ?_ | show False | refine NeedI.mk ?_ ?_); conv => whnf)
  · refine LoopVC.inv (X := Ls × Nat × (Nat → List Int)) (fun x => LA 5 x.2.1 x.1 ∧ x.2.1 ≤ M ∧ ∀ r, r < 5 → cA x.1 r = x.2.2 r)
      (fun x => stL [(5, .os 44 0 1 0 5), (7, .va 7 0 0), (9, .os 64 0 1 0 5), (10, .c (.int .i64 M)), (70, .c (.sl 2 M fun i j => u2E (costs.getD i default) j)), (71, .c (.int .i64 M)), (72, .c (.int .i64 x.2.1))]
        [(7, vE [.c (slL 3 lnE x.1.list), .c (.int .i64 x.1.at_), .c (.bool x.1.given)]), (44, ⟨1, 5, .dat fun r j => intE (w.getD r default) j, true, true⟩), (64, ⟨1, 5, wA x.2.2, false, true⟩), (2000, wE x.2.2 0), (2001, wE x.2.2 1), (2002, wE x.2.2 2), (2003, wE x.2.2 3), (2004, wE x.2.2 4)]) (fun x => M - x.2.1) ⟨l0, 0, fun _ => []⟩ ⟨hst, Nat.zero_le _, hz⟩ ?_ ?_
    · (refine Le.ofN [2000,2001,2002,2003,2004] ?_ ?_ <;> repeat' first | exact trivial | exact SubF.inr ⟨_, _, _, rfl, rfl, rfl⟩ | exact SubF.inl (cI (by push_cast; first | rfl | omega)) | exact SubF.inl (CEq.refl _) | exact SubF.inl rfl | exact SubF.inl trivial | exact SubF.inl ⟨rfl, rfl, rfl⟩ | exact SubF.inl ⟨rfl, rfl, rfl, rfl, rfl⟩ | exact Or.inl ⟨rfl, rfl⟩ | refine Or.inr ⟨rfl, _, rfl, ?_⟩ | refine SubEF.var2 ?_ ?_ | refine SubEF.var1 ?_ | refine SubEF.var3 ?_ ?_ ?_ | refine SubEF.varN ?_ | refine SubEF.var4 ?_ ?_ ?_ ?_ | exact SubEF.of (SubE.dat fun _ _ _ _ => CEq.refl _) | refine And.intro ?_ ?_ | refine SubF.frz rfl rfl rfl rfl (Nat.le_of_eq (Nat.zero_add _)) rfl rfl ?_)
      exact ⟨rfl, rfl, id, id, fun r hr j hj => by
        have hj : j < 1 := hj
        have hr : r < 5 := hr
        obtain rfl : j = 0 := by omega
        rcases (show r = 0 ∨ r = 1 ∨ r = 2 ∨ r = 3 ∨ r = 4 by omega) with rfl | rfl | rfl | rfl | rfl <;> exact SubF.inr ⟨_, _, _, rfl, rfl, rfl⟩⟩
    rintro Q hQ ⟨l, j, W⟩ ⟨I, hj, hW⟩
    dsimp only at I hj hW
    dsimp only
    repeat' first
      | (with_reducible first | refine NeedI.mk (fun h => h) ?_ | refine NeedI.mk (fun h => h.2) ?_ | refine NeedI.mk (fun h => h.1) ?_ | (show Done; exact Done.mk) | refine Both.mk (fun _ => ?_) (fun _ => ?_) | refine Both2.mk (fun _ => ?_) ?_ | (refine Need.mk ?_ ?_; (first | omega | with_reducible exact CEq.refl _ | (dsimp only; omega) | (dsimp only [rng]; omega) | (simp only [decide_eq_true_eq, decide_eq_false_iff_not, Bool.or_eq_true, Bool.and_eq_true, Bool.or_eq_false_iff, Int.toNat_natCast, addN_eq, cond_false, cond_true, rng] at *; omega) | exact ⟨rfl, rfl⟩)))
      | ((with_reducible refine Need.mk ?_ ?_); exact CEq.refl _)
      | ((with_reducible fail_if_success first | refine LoopVC.mk ?_ | refine Need.mk ?_ ?_ | refine CallVC.mk ?_ | refine LoopEnd.mk ?_ | refine Out.mk ?_ | show False | refine NeedI.mk ?_ ?_); conv => whnf)
    · rename_i hjl
      have hjl : j < M := by have := of_decide_eq_true hjl; omega
      have hu : ∀ u : UInt8, u.toNat < 256 := fun u => u.toNat_lt
      have hu0 := hu (costs.getD j default).1
      have hu1 := hu (costs.getD j default).2
      have hWl : ∀ r, r < 5 → (W r).length ≤ 150 := fun r hr => by
        have h5 := lft_le (l := l.list) (k := r) (by rw [I.nn]; exact hr)
        rw [I.ll] at h5
        rw [← hW r hr]
        show (l.list.getD r default).costs.length ≤ 150
        omega
      refine Need.mk rfl ?_
      repeat' first
        | (with_reducible first | refine NeedI.mk (fun h => h) ?_ | refine NeedI.mk (fun h => h.2) ?_ | refine NeedI.mk (fun h => h.1) ?_ | (show Done; exact Done.mk) | refine Both.mk (fun _ => ?_) (fun _ => ?_) | refine Both2.mk (fun _ => ?_) ?_ | (refine Need.mk ?_ ?_; (first | omega | with_reducible exact CEq.refl _ | (dsimp only; omega) | (dsimp only [rng]; omega) | (simp only [decide_eq_true_eq, decide_eq_false_iff_not, Bool.or_eq_true, Bool.and_eq_true, Bool.or_eq_false_iff, Int.toNat_natCast, addN_eq, cond_false, cond_true, rng] at *; omega) | exact ⟨rfl, rfl⟩)))
        | ((with_reducible refine Need.mk ?_ ?_); exact CEq.refl _)
        | ((with_reducible fail_if_success first | refine LoopVC.mk ?_ | refine Need.mk ?_ ?_ | refine CallVC.mk ?_ | refine LoopEnd.mk ?_ | refine Out.mk ?_ | show False | refine NeedI.mk ?_ ?_); conv => whnf)
      rw [Int.toNat_natCast]
      generalize (costs.getD j default).1.toNat = u0 at *
      generalize (costs.getD j default).2.toNat = u1 at *
      obtain ⟨c, hc⟩ : ∃ c : Int, 1 + (u1 : Int) % 8 = c := ⟨_, rfl⟩
      rw [hc]
      have hcb : 1 ≤ c ∧ c ≤ 8 := by omega
      clear hc hu hu1
      rcases (show (u0 : Int) % ((5 : Nat) : Int) = ((0 : Nat) : Int) ∨ (u0 : Int) % ((5 : Nat) : Int) = ((1 : Nat) : Int) ∨ (u0 : Int) % ((5 : Nat) : Int) = ((2 : Nat) : Int) ∨ (u0 : Int) % ((5 : Nat) : Int) = ((3 : Nat) : Int) ∨ (u0 : Int) % ((5 : Nat) : Int) = ((4 : Nat) : Int) by omega) with e | e | e | e | e
      · rw [e]
        clear e hu0
        obtain ⟨p1, p2, p3, p4⟩ := I.push (k := 0) (by omega) hcb (by omega)
        refine CallVC.mk' (fun _ => push_ok K.k l ((0 : Nat) : Int) c I.r.tiny) (fun _ => .cons ((.many fun j hj => by (rcases (show j = 0 ∨ j = 1 ∨ j = 2 by omega) with rfl | rfl | rfl <;> exact CEq.refl _))) (.cons (.one (CEq.refl _)) (.cons (.one (CEq.refl _)) .nil))) ?_
        rw [p1]
        generalize pushL l ((0 : Nat) : Int) c = l2 at *
        repeat' first
          | (with_reducible first | refine NeedI.mk (fun h => h) ?_ | refine NeedI.mk (fun h => h.2) ?_ | refine NeedI.mk (fun h => h.1) ?_ | (show Done; exact Done.mk) | refine Both.mk (fun _ => ?_) (fun _ => ?_) | refine Both2.mk (fun _ => ?_) ?_ | (refine Need.mk ?_ ?_; (first | omega | with_reducible exact CEq.refl _ | (dsimp only; omega) | (dsimp only [rng]; omega) | (simp only [decide_eq_true_eq, decide_eq_false_iff_not, Bool.or_eq_true, Bool.and_eq_true, Bool.or_eq_false_iff, Int.toNat_natCast, addN_eq, cond_false, cond_true, rng] at *; omega) | exact ⟨rfl, rfl⟩)))
          | ((with_reducible refine Need.mk ?_ ?_); exact CEq.refl _)
          | ((with_reducible fail_if_success first | refine LoopVC.mk ?_ | refine Need.mk ?_ ?_ | refine CallVC.mk ?_ | refine LoopEnd.mk ?_ | refine Out.mk ?_ | show False | refine NeedI.mk ?_ ?_); conv => whnf)
        · rename_i h; exact absurd h (by decide)
        have hl5 := hWl 0 (by omega)
        refine Need.mk (by show ((W 0).length + 1) * 8 ≤ 140737488355328 ∧ (W 0).length + 1 ≤ 140737488355328; omega) ?_
        repeat' first
          | (with_reducible first | refine NeedI.mk (fun h => h) ?_ | refine NeedI.mk (fun h => h.2) ?_ | refine NeedI.mk (fun h => h.1) ?_ | (show Done; exact Done.mk) | refine Both.mk (fun _ => ?_) (fun _ => ?_) | refine Both2.mk (fun _ => ?_) ?_ | (refine Need.mk ?_ ?_; (first | omega | with_reducible exact CEq.refl _ | (dsimp only; omega) | (dsimp only [rng]; omega) | (simp only [decide_eq_true_eq, decide_eq_false_iff_not, Bool.or_eq_true, Bool.and_eq_true, Bool.or_eq_false_iff, Int.toNat_natCast, addN_eq, cond_false, cond_true, rng] at *; omega) | exact ⟨rfl, rfl⟩)))
          | ((with_reducible refine Need.mk ?_ ?_); exact CEq.refl _)
          | ((with_reducible fail_if_success first | refine LoopVC.mk ?_ | refine Need.mk ?_ ?_ | refine CallVC.mk ?_ | refine LoopEnd.mk ?_ | refine Out.mk ?_ | show False | refine NeedI.mk ?_ ?_); conv => whnf)
        refine LoopEnd.mk ⟨(l2, j + 1, ext W 0 c), ⟨p2, hjl, fun r hr => ?_⟩, by show M - (j + 1) < M - j; omega, ?_⟩
        · rcases (show r = 0 ∨ r = 1 ∨ r = 2 ∨ r = 3 ∨ r = 4 by omega) with rfl | rfl | rfl | rfl | rfl <;> first | exact p3.trans (by rw [hW _ (by omega)]; rfl) | exact (p4 _ (by omega) (by omega)).trans (hW _ (by omega))
        · clear hQ
          have hlen := ext_len (W := W) (k := 0) (c := c)
          (refine Le.of ?_ ?_ <;> repeat' first | exact trivial | exact CEq.refl _ | exact rfl | exact cI (by push_cast; first | rfl | omega) | exact SubE.dat fun _ _ _ _ => CEq.refl _ | refine SubE.var2 ?_ ?_ | refine SubE.var1 ?_ | refine SubE.var3 ?_ ?_ ?_ | refine SubE.var4 ?_ ?_ ?_ ?_ | refine SubE.var5 ?_ ?_ ?_ ?_ ?_ | refine SubE.varN ?_ | refine Exists.intro _ (And.intro rfl ?_) | refine And.intro ?_ ?_)
          · exact ⟨rfl, rfl, id, id, fun r hr j hj => by
              have hj : j < 1 := hj
              have hr : r < 5 := hr
              obtain rfl : j = 0 := by omega
              rcases (show r = 0 ∨ r = 1 ∨ r = 2 ∨ r = 3 ∨ r = 4 by omega) with rfl | rfl | rfl | rfl | rfl <;> first | exact ⟨rfl, rfl, rfl, rfl, rfl⟩ | exact ⟨rfl, rfl, rfl, rfl, hlen.symm⟩⟩
          · exact ⟨rfl, hlen.symm, id, id, fun i hi j hj => ext_ceq rfl i hi j hj⟩
      · rw [e]
        clear e hu0
        obtain ⟨p1, p2, p3, p4⟩ := I.push (k := 1) (by omega) hcb (by omega)
        refine CallVC.mk' (fun _ => push_ok K.k l ((1 : Nat) : Int) c I.r.tiny) (fun _ => .cons ((.many fun j hj => by (rcases (show j = 0 ∨ j = 1 ∨ j = 2 by omega) with rfl | rfl | rfl <;> exact CEq.refl _))) (.cons (.one (CEq.refl _)) (.cons (.one (CEq.refl _)) .nil))) ?_
        rw [p1]
        generalize pushL l ((1 : Nat) : Int) c = l2 at *
        repeat' first
          | (with_reducible first | refine NeedI.mk (fun h => h) ?_ | refine NeedI.mk (fun h => h.2) ?_ | refine NeedI.mk (fun h => h.1) ?_ | (show Done; exact Done.mk) | refine Both.mk (fun _ => ?_) (fun _ => ?_) | refine Both2.mk (fun _ => ?_) ?_ | (refine Need.mk ?_ ?_; (first | omega | with_reducible exact CEq.refl _ | (dsimp only; omega) | (dsimp only [rng]; omega) | (simp only [decide_eq_true_eq, decide_eq_false_iff_not, Bool.or_eq_true, Bool.and_eq_true, Bool.or_eq_false_iff, Int.toNat_natCast, addN_eq, cond_false, cond_true, rng] at *; omega) | exact ⟨rfl, rfl⟩)))
          | ((with_reducible refine Need.mk ?_ ?_); exact CEq.refl _)
          | ((with_reducible fail_if_success first | refine LoopVC.mk ?_ | refine Need.mk ?_ ?_ | refine CallVC.mk ?_ | refine LoopEnd.mk ?_ | refine Out.mk ?_ | show False | refine NeedI.mk ?_ ?_); conv => whnf)
        · rename_i h; exact absurd h (by decide)
        have hl5 := hWl 1 (by omega)
        refine Need.mk (by show ((W 1).length + 1) * 8 ≤ 140737488355328 ∧ (W 1).length + 1 ≤ 140737488355328; omega) ?_
        repeat' first
          | (with_reducible first | refine NeedI.mk (fun h => h) ?_ | refine NeedI.mk (fun h => h.2) ?_ | refine NeedI.mk (fun h => h.1) ?_ | (show Done; exact Done.mk) | refine Both.mk (fun _ => ?_) (fun _ => ?_) | refine Both2.mk (fun _ => ?_) ?_ | (refine Need.mk ?_ ?_; (first | omega | with_reducible exact CEq.refl _ | (dsimp only; omega) | (dsimp only [rng]; omega) | (simp only [decide_eq_true_eq, decide_eq_false_iff_not, Bool.or_eq_true, Bool.and_eq_true, Bool.or_eq_false_iff, Int.toNat_natCast, addN_eq, cond_false, cond_true, rng] at *; omega) | exact ⟨rfl, rfl⟩)))
          | ((with_reducible refine Need.mk ?_ ?_); exact CEq.refl _)
          | ((with_reducible fail_if_success first | refine LoopVC.mk ?_ | refine Need.mk ?_ ?_ | refine CallVC.mk ?_ | refine LoopEnd.mk ?_ | refine Out.mk ?_ | show False | refine NeedI.mk ?_ ?_); conv => whnf)
        refine LoopEnd.mk ⟨(l2, j + 1, ext W 1 c), ⟨p2, hjl, fun r hr => ?_⟩, by show M - (j + 1) < M - j; omega, ?_⟩
        · rcases (show r = 0 ∨ r = 1 ∨ r = 2 ∨ r = 3 ∨ r = 4 by omega) with rfl | rfl | rfl | rfl | rfl <;> first | exact p3.trans (by rw [hW _ (by omega)]; rfl) | exact (p4 _ (by omega) (by omega)).trans (hW _ (by omega))
        · clear hQ
          have hlen := ext_len (W := W) (k := 1) (c := c)
          (refine Le.of ?_ ?_ <;> repeat' first | exact trivial | exact CEq.refl _ | exact rfl | exact cI (by push_cast; first | rfl | omega) | exact SubE.dat fun _ _ _ _ => CEq.refl _ | refine SubE.var2 ?_ ?_ | refine SubE.var1 ?_ | refine SubE.var3 ?_ ?_ ?_ | refine SubE.var4 ?_ ?_ ?_ ?_ | refine SubE.var5 ?_ ?_ ?_ ?_ ?_ | refine SubE.varN ?_ | refine Exists.intro _ (And.intro rfl ?_) | refine And.intro ?_ ?_)
          · exact ⟨rfl, rfl, id, id, fun r hr j hj => by
              have hj : j < 1 := hj
              have hr : r < 5 := hr
              obtain rfl : j = 0 := by omega
              rcases (show r = 0 ∨ r = 1 ∨ r = 2 ∨ r = 3 ∨ r = 4 by omega) with rfl | rfl | rfl | rfl | rfl <;> first | exact ⟨rfl, rfl, rfl, rfl, rfl⟩ | exact ⟨rfl, rfl, rfl, rfl, hlen.symm⟩⟩
          · exact ⟨rfl, hlen.symm, id, id, fun i hi j hj => ext_ceq rfl i hi j hj⟩
      · rw [e]
        clear e hu0
        obtain ⟨p1, p2, p3, p4⟩ := I.push (k := 2) (by omega) hcb (by omega)
        refine CallVC.mk' (fun _ => push_ok K.k l ((2 : Nat) : Int) c I.r.tiny) (fun _ => .cons ((.many fun j hj => by (rcases (show j = 0 ∨ j = 1 ∨ j = 2 by omega) with rfl | rfl | rfl <;> exact CEq.refl _))) (.cons (.one (CEq.refl _)) (.cons (.one (CEq.refl _)) .nil))) ?_
        rw [p1]
        generalize pushL l ((2 : Nat) : Int) c = l2 at *
        repeat' first
          | (with_reducible first | refine NeedI.mk (fun h => h) ?_ | refine NeedI.mk (fun h => h.2) ?_ | refine NeedI.mk (fun h => h.1) ?_ | (show Done; exact Done.mk) | refine Both.mk (fun _ => ?_) (fun _ => ?_) | refine Both2.mk (fun _ => ?_) ?_ | (refine Need.mk ?_ ?_; (first | omega | with_reducible exact CEq.refl _ | (dsimp only; omega) | (dsimp only [rng]; omega) | (simp only [decide_eq_true_eq, decide_eq_false_iff_not, Bool.or_eq_true, Bool.and_eq_true, Bool.or_eq_false_iff, Int.toNat_natCast, addN_eq, cond_false, cond_true, rng] at *; omega) | exact ⟨rfl, rfl⟩)))
          | ((with_reducible refine Need.mk ?_ ?_); exact CEq.refl _)
          | ((with_reducible fail_if_success first | refine LoopVC.mk ?_ | refine Need.mk ?_ ?_ | refine CallVC.mk ?_ | refine LoopEnd.mk ?_ | refine Out.mk ?_ | show False | refine NeedI.mk ?_ ?_); conv => whnf)
        · rename_i h; exact absurd h (by decide)
        have hl5 := hWl 2 (by omega)
        refine Need.mk (by show ((W 2).length + 1) * 8 ≤ 140737488355328 ∧ (W 2).length + 1 ≤ 140737488355328; omega) ?_
        repeat' first
          | (with_reducible first | refine NeedI.mk (fun h => h) ?_ | refine NeedI.mk (fun h => h.2) ?_ | refine NeedI.mk (fun h => h.1) ?_ | (show Done; exact Done.mk) | refine Both.mk (fun _ => ?_) (fun _ => ?_) | refine Both2.mk (fun _ => ?_) ?_ | (refine Need.mk ?_ ?_; (first | omega | with_reducible exact CEq.refl _ | (dsimp only; omega) | (dsimp only [rng]; omega) | (simp only [decide_eq_true_eq, decide_eq_false_iff_not, Bool.or_eq_true, Bool.and_eq_true, Bool.or_eq_false_iff, Int.toNat_natCast, addN_eq, cond_false, cond_true, rng] at *; omega) | exact ⟨rfl, rfl⟩)))
          | ((with_reducible refine Need.mk ?_ ?_); exact CEq.refl _)
          | ((with_reducible fail_if_success first | refine LoopVC.mk ?_ | refine Need.mk ?_ ?_ | refine CallVC.mk ?_ | refine LoopEnd.mk ?_ | refine Out.mk ?_ | show False | refine NeedI.mk ?_ ?_); conv => whnf)
        refine LoopEnd.mk ⟨(l2, j + 1, ext W 2 c), ⟨p2, hjl, fun r hr => ?_⟩, by show M - (j + 1) < M - j; omega, ?_⟩
        · rcases (show r = 0 ∨ r = 1 ∨ r = 2 ∨ r = 3 ∨ r = 4 by omega) with rfl | rfl | rfl | rfl | rfl <;> first | exact p3.trans (by rw [hW _ (by omega)]; rfl) | exact (p4 _ (by omega) (by omega)).trans (hW _ (by omega))
        · clear hQ
          have hlen := ext_len (W := W) (k := 2) (c := c)
          (refine Le.of ?_ ?_ <;> repeat' first | exact trivial | exact CEq.refl _ | exact rfl | exact cI (by push_cast; first | rfl | omega) | exact SubE.dat fun _ _ _ _ => CEq.refl _ | refine SubE.var2 ?_ ?_ | refine SubE.var1 ?_ | refine SubE.var3 ?_ ?_ ?_ | refine SubE.var4 ?_ ?_ ?_ ?_ | refine SubE.var5 ?_ ?_ ?_ ?_ ?_ | refine SubE.varN ?_ | refine Exists.intro _ (And.intro rfl ?_) | refine And.intro ?_ ?_)
          · exact ⟨rfl, rfl, id, id, fun r hr j hj => by
              have hj : j < 1 := hj
              have hr : r < 5 := hr
              obtain rfl : j = 0 := by omega
              rcases (show r = 0 ∨ r = 1 ∨ r = 2 ∨ r = 3 ∨ r = 4 by omega) with rfl | rfl | rfl | rfl | rfl <;> first | exact ⟨rfl, rfl, rfl, rfl, rfl⟩ | exact ⟨rfl, rfl, rfl, rfl, hlen.symm⟩⟩
          · exact ⟨rfl, hlen.symm, id, id, fun i hi j hj => ext_ceq rfl i hi j hj⟩
      · rw [e]
        clear e hu0
        obtain ⟨p1, p2, p3, p4⟩ := I.push (k := 3) (by omega) hcb (by omega)
        refine CallVC.mk' (fun _ => push_ok K.k l ((3 : Nat) : Int) c I.r.tiny) (fun _ => .cons ((.many fun j hj => by (rcases (show j = 0 ∨ j = 1 ∨ j = 2 by omega) with rfl | rfl | rfl <;> exact CEq.refl _))) (.cons (.one (CEq.refl _)) (.cons (.one (CEq.refl _)) .nil))) ?_
        rw [p1]
        generalize pushL l ((3 : Nat) : Int) c = l2 at *
        repeat' first
          | (with_reducible first | refine NeedI.mk (fun h => h) ?_ | refine NeedI.mk (fun h => h.2) ?_ | refine NeedI.mk (fun h => h.1) ?_ | (show Done; exact Done.mk) | refine Both.mk (fun _ => ?_) (fun _ => ?_) | refine Both2.mk (fun _ => ?_) ?_ | (refine Need.mk ?_ ?_; (first | omega | with_reducible exact CEq.refl _ | (dsimp only; omega) | (dsimp only [rng]; omega) | (simp only [decide_eq_true_eq, decide_eq_false_iff_not, Bool.or_eq_true, Bool.and_eq_true, Bool.or_eq_false_iff, Int.toNat_natCast, addN_eq, cond_false, cond_true, rng] at *; omega) | exact ⟨rfl, rfl⟩)))
          | ((with_reducible refine Need.mk ?_ ?_); exact CEq.refl _)
          | ((with_reducible fail_if_success first | refine LoopVC.mk ?_ | refine Need.mk ?_ ?_ | refine CallVC.mk ?_ | refine LoopEnd.mk ?_ | refine Out.mk ?_ | show False | refine NeedI.mk ?_ ?_); conv => whnf)
        · rename_i h; exact absurd h (by decide)
        have hl5 := hWl 3 (by omega)
        refine Need.mk (by show ((W 3).length + 1) * 8 ≤ 140737488355328 ∧ (W 3).length + 1 ≤ 140737488355328; omega) ?_
        repeat' first
          | (with_reducible first | refine NeedI.mk (fun h => h) ?_ | refine NeedI.mk (fun h => h.2) ?_ | refine NeedI.mk (fun h => h.1) ?_ | (show Done; exact Done.mk) | refine Both.mk (fun _ => ?_) (fun _ => ?_) | refine Both2.mk (fun _ => ?_) ?_ | (refine Need.mk ?_ ?_; (first | omega | with_reducible exact CEq.refl _ | (dsimp only; omega) | (dsimp only [rng]; omega) | (simp only [decide_eq_true_eq, decide_eq_false_iff_not, Bool.or_eq_true, Bool.and_eq_true, Bool.or_eq_false_iff, Int.toNat_natCast, addN_eq, cond_false, cond_true, rng] at *; omega) | exact ⟨rfl, rfl⟩)))
          | ((with_reducible refine Need.mk ?_ ?_); exact CEq.refl _)
          | ((with_reducible fail_if_success first | refine LoopVC.mk ?_ | refine Need.mk ?_ ?_ | refine CallVC.mk ?_ | refine LoopEnd.mk ?_ | refine Out.mk ?_ | show False | refine NeedI.mk ?_ ?_); conv => whnf)
        refine LoopEnd.mk ⟨(l2, j + 1, ext W 3 c), ⟨p2, hjl, fun r hr => ?_⟩, by show M - (j + 1) < M - j; omega, ?_⟩
        · rcases (show r = 0 ∨ r = 1 ∨ r = 2 ∨ r = 3 ∨ r = 4 by omega) with rfl | rfl | rfl | rfl | rfl <;> first | exact p3.trans (by rw [hW _ (by omega)]; rfl) | exact (p4 _ (by omega) (by omega)).trans (hW _ (by omega))
        · clear hQ
          have hlen := ext_len (W := W) (k := 3) (c := c)
          (refine Le.of ?_ ?_ <;> repeat' first | exact trivial | exact CEq.refl _ | exact rfl | exact cI (by push_cast; first | rfl | omega) | exact SubE.dat fun _ _ _ _ => CEq.refl _ | refine SubE.var2 ?_ ?_ | refine SubE.var1 ?_ | refine SubE.var3 ?_ ?_ ?_ | refine SubE.var4 ?_ ?_ ?_ ?_ | refine SubE.var5 ?_ ?_ ?_ ?_ ?_ | refine SubE.varN ?_ | refine Exists.intro _ (And.intro rfl ?_) | refine And.intro ?_ ?_)
          · exact ⟨rfl, rfl, id, id, fun r hr j hj => by
              have hj : j < 1 := hj
              have hr : r < 5 := hr
              obtain rfl : j = 0 := by omega
              rcases (show r = 0 ∨ r = 1 ∨ r = 2 ∨ r = 3 ∨ r = 4 by omega) with rfl | rfl | rfl | rfl | rfl <;> first | exact ⟨rfl, rfl, rfl, rfl, rfl⟩ | exact ⟨rfl, rfl, rfl, rfl, hlen.symm⟩⟩
          · exact ⟨rfl, hlen.symm, id, id, fun i hi j hj => ext_ceq rfl i hi j hj⟩
      · rw [e]
        clear e hu0
        obtain ⟨p1, p2, p3, p4⟩ := I.push (k := 4) (by omega) hcb (by omega)
        refine CallVC.mk' (fun _ => push_ok K.k l ((4 : Nat) : Int) c I.r.tiny) (fun _ => .cons ((.many fun j hj => by (rcases (show j = 0 ∨ j = 1 ∨ j = 2 by omega) with rfl | rfl | rfl <;> exact CEq.refl _))) (.cons (.one (CEq.refl _)) (.cons (.one (CEq.refl _)) .nil))) ?_
        rw [p1]
        generalize pushL l ((4 : Nat) : Int) c = l2 at *
        repeat' first
          | (with_reducible first | refine NeedI.mk (fun h => h) ?_ | refine NeedI.mk (fun h => h.2) ?_ | refine NeedI.mk (fun h => h.1) ?_ | (show Done; exact Done.mk) | refine Both.mk (fun _ => ?_) (fun _ => ?_) | refine Both2.mk (fun _ => ?_) ?_ | (refine Need.mk ?_ ?_; (first | omega | with_reducible exact CEq.refl _ | (dsimp only; omega) | (dsimp only [rng]; omega) | (simp only [decide_eq_true_eq, decide_eq_false_iff_not, Bool.or_eq_true, Bool.and_eq_true, Bool.or_eq_false_iff, Int.toNat_natCast, addN_eq, cond_false, cond_true, rng] at *; omega) | exact ⟨rfl, rfl⟩)))
          | ((with_reducible refine Need.mk ?_ ?_); exact CEq.refl _)
          | ((with_reducible fail_if_success first | refine LoopVC.mk ?_ | refine Need.mk ?_ ?_ | refine CallVC.mk ?_ | refine LoopEnd.mk ?_ | refine Out.mk ?_ | show False | refine NeedI.mk ?_ ?_); conv => whnf)
        · rename_i h; exact absurd h (by decide)
        have hl5 := hWl 4 (by omega)
        refine Need.mk (by show ((W 4).length + 1) * 8 ≤ 140737488355328 ∧ (W 4).length + 1 ≤ 140737488355328; omega) ?_
        repeat' first
          | (with_reducible first | refine NeedI.mk (fun h => h) ?_ | refine NeedI.mk (fun h => h.2) ?_ | refine NeedI.mk (fun h => h.1) ?_ | (show Done; exact Done.mk) | refine Both.mk (fun _ => ?_) (fun _ => ?_) | refine Both2.mk (fun _ => ?_) ?_ | (refine Need.mk ?_ ?_; (first | omega | with_reducible exact CEq.refl _ | (dsimp only; omega) | (dsimp only [rng]; omega) | (simp only [decide_eq_true_eq, decide_eq_false_iff_not, Bool.or_eq_true, Bool.and_eq_true, Bool.or_eq_false_iff, Int.toNat_natCast, addN_eq, cond_false, cond_true, rng] at *; omega) | exact ⟨rfl, rfl⟩)))
          | ((with_reducible refine Need.mk ?_ ?_); exact CEq.refl _)
          | ((with_reducible fail_if_success first | refine LoopVC.mk ?_ | refine Need.mk ?_ ?_ | refine CallVC.mk ?_ | refine LoopEnd.mk ?_ | refine Out.mk ?_ | show False | refine NeedI.mk ?_ ?_); conv => whnf)
        refine LoopEnd.mk ⟨(l2, j + 1, ext W 4 c), ⟨p2, hjl, fun r hr => ?_⟩, by show M - (j + 1) < M - j; omega, ?_⟩
        · rcases (show r = 0 ∨ r = 1 ∨ r = 2 ∨ r = 3 ∨ r = 4 by omega) with rfl | rfl | rfl | rfl | rfl <;> first | exact p3.trans (by rw [hW _ (by omega)]; rfl) | exact (p4 _ (by omega) (by omega)).trans (hW _ (by omega))
        · clear hQ
          have hlen := ext_len (W := W) (k := 4) (c := c)
          (refine Le.of ?_ ?_ <;> repeat' first | exact trivial | exact CEq.refl _ | exact rfl | exact cI (by push_cast; first | rfl | omega) | exact SubE.dat fun _ _ _ _ => CEq.refl _ | refine SubE.var2 ?_ ?_ | refine SubE.var1 ?_ | refine SubE.var3 ?_ ?_ ?_ | refine SubE.var4 ?_ ?_ ?_ ?_ | refine SubE.var5 ?_ ?_ ?_ ?_ ?_ | refine SubE.varN ?_ | refine Exists.intro _ (And.intro rfl ?_) | refine And.intro ?_ ?_)
          · exact ⟨rfl, rfl, id, id, fun r hr j hj => by
              have hj : j < 1 := hj
              have hr : r < 5 := hr
              obtain rfl : j = 0 := by omega
              rcases (show r = 0 ∨ r = 1 ∨ r = 2 ∨ r = 3 ∨ r = 4 by omega) with rfl | rfl | rfl | rfl | rfl <;> first | exact ⟨rfl, rfl, rfl, rfl, rfl⟩ | exact ⟨rfl, rfl, rfl, rfl, hlen.symm⟩⟩
          · exact ⟨rfl, hlen.symm, id, id, fun i hi j hj => ext_ceq rfl i hi j hj⟩
    rename_i hjl
    have hjl : j = M := by have := of_decide_eq_false hjl; omega
    subst hjl
    refine Out.mk (hQ _ _ ?_)
    clear hQ Q hj hst hz
    repeat' first
      | (with_reducible first | refine NeedI.mk (fun h => h) ?_ | refine NeedI.mk (fun h => h.2) ?_ | refine NeedI.mk (fun h => h.1) ?_ | (show Done; exact Done.mk) | refine Both.mk (fun _ => ?_) (fun _ => ?_) | refine Both2.mk (fun _ => ?_) ?_ | (refine Need.mk ?_ ?_; (first | omega | with_reducible exact CEq.refl _ | (dsimp only; omega) | (dsimp only [rng]; omega) | (simp only [decide_eq_true_eq, decide_eq_false_iff_not, Bool.or_eq_true, Bool.and_eq_true, Bool.or_eq_false_iff, Int.toNat_natCast, addN_eq, cond_false, cond_true, rng] at *; omega) | exact ⟨rfl, rfl⟩)))
      | ((with_reducible refine Need.mk ?_ ?_); exact CEq.refl _)
      | ((with_reducible fail_if_success first | refine LoopVC.mk ?_ | refine Need.mk ?_ ?_ | refine CallVC.mk ?_ | refine LoopEnd.mk ?_ | refine Out.mk ?_ | show False | refine NeedI.mk ?_ ?_); conv => whnf)
    refine LoopVC.inv (X := Ls × Nat × (Nat → List Int)) (fun x => x.2.1 ≤ j ∧ LA 5 (j - x.2.1) x.1 ∧ ∀ r, r < 5 → cA x.1 r = x.2.2 r)
      (fun x => stL [(5, .os 44 0 1 0 5), (7, .va 7 0 0), (9, .os 64 0 1 0 5), (108, .c (.int .i64 j)), (109, .c (.int .i64 x.2.1))]
        [(7, vE [.c (slL 3 lnE x.1.list), .c (.int .i64 x.1.at_), .c (.bool x.1.given)]), (44, ⟨1, 5, .dat fun r j => intE (w.getD r default) j, true, true⟩), (64, ⟨1, 5, .dat fun r _ => slL 1 intE (x.2.2 r), false, true⟩)]) (fun x => j - x.2.1) ⟨l, 0, W⟩ ⟨Nat.zero_le _, I, hW⟩ ?_ ?_
    · refine Le.trans (s2 := stL [(5, .os 44 0 1 0 5), (7, .va 7 0 0), (9, .os 64 0 1 0 5), (108, .c (.int .i64 j)), (109, .c (.int .i64 (0 : Nat)))]
        [(7, vE [.c (slL 3 lnE l.list), .c (.int .i64 l.at_), .c (.bool l.given)]), (44, ⟨1, 5, .dat fun r j => intE (w.getD r default) j, true, true⟩), (64, ⟨1, 5, wA W, false, true⟩), (2000, wEz W 0), (2001, wEz W 1), (2002, wEz W 2), (2003, wEz W 3), (2004, wEz W 4)]) ?_ ?_
      · (refine Le.of ?_ ?_ <;> repeat' first | exact trivial | exact CEq.refl _ | exact rfl | exact cI (by push_cast; first | rfl | omega) | exact SubE.dat fun _ _ _ _ => CEq.refl _ | refine SubE.var2 ?_ ?_ | refine SubE.var1 ?_ | refine SubE.var3 ?_ ?_ ?_ | refine SubE.var4 ?_ ?_ ?_ ?_ | refine SubE.var5 ?_ ?_ ?_ ?_ ?_ | refine SubE.varN ?_ | refine Exists.intro _ (And.intro rfl ?_) | refine And.intro ?_ ?_)
        all_goals first | exact ⟨rfl, rfl, fun _ => rfl, id, fun i hi j hj => CEq.refl _⟩ | exact ⟨rfl, rfl, id, id, fun r hr j hj => ⟨rfl, rfl, rfl, rfl, rfl⟩⟩
      (refine Le.ofN [] ?_ ?_ <;> repeat' first | exact trivial | exact SubF.inr ⟨_, _, _, rfl, rfl, rfl⟩ | exact SubF.inl (cI (by push_cast; first | rfl | omega)) | exact SubF.inl (CEq.refl _) | exact SubF.inl rfl | exact SubF.inl trivial | exact SubF.inl ⟨rfl, rfl, rfl⟩ | exact SubF.inl ⟨rfl, rfl, rfl, rfl, rfl⟩ | exact Or.inl ⟨rfl, rfl⟩ | refine Or.inr ⟨rfl, _, rfl, ?_⟩ | refine SubEF.var2 ?_ ?_ | refine SubEF.var1 ?_ | refine SubEF.var3 ?_ ?_ ?_ | refine SubEF.varN ?_ | refine SubEF.var4 ?_ ?_ ?_ ?_ | exact SubEF.of (SubE.dat fun _ _ _ _ => CEq.refl _) | refine And.intro ?_ ?_ | refine SubF.frz rfl rfl rfl rfl (Nat.le_of_eq (Nat.zero_add _)) rfl rfl ?_)
      exact ⟨rfl, rfl, id, id, fun r hr j hj => by
        have hj : j < 1 := hj
        have hr : r < 5 := hr
        obtain rfl : j = 0 := by omega
        rcases (show r = 0 ∨ r = 1 ∨ r = 2 ∨ r = 3 ∨ r = 4 by omega) with rfl | rfl | rfl | rfl | rfl <;> exact SubF.frz rfl rfl rfl rfl (Nat.le_of_eq (Nat.zero_add _)) rfl rfl (wE_ceq)⟩
    clear I hW
    rintro Q hQ ⟨l, k, W⟩ ⟨hk, I, hW⟩
    dsimp only at I hk hW
    dsimp only
    repeat' first
      | (with_reducible first | refine NeedI.mk (fun h => h) ?_ | refine NeedI.mk (fun h => h.2) ?_ | refine NeedI.mk (fun h => h.1) ?_ | (show Done; exact Done.mk) | refine Both.mk (fun _ => ?_) (fun _ => ?_) | refine Both2.mk (fun _ => ?_) ?_ | (refine Need.mk ?_ ?_; (first | omega | with_reducible exact CEq.refl _ | (dsimp only; omega) | (dsimp only [rng]; omega) | (simp only [decide_eq_true_eq, decide_eq_false_iff_not, Bool.or_eq_true, Bool.and_eq_true, Bool.or_eq_false_iff, Int.toNat_natCast, addN_eq, cond_false, cond_true, rng] at *; omega) | exact ⟨rfl, rfl⟩)))
      | ((with_reducible refine Need.mk ?_ ?_); exact CEq.refl _)
      | ((with_reducible fail_if_success first | refine LoopVC.mk ?_ | refine Need.mk ?_ ?_ | refine CallVC.mk ?_ | refine LoopEnd.mk ?_ | refine Out.mk ?_ | show False | refine NeedI.mk ?_ ?_); conv => whnf)
    · rename_i hkj
      have hkj : k < j := by have := of_decide_eq_true hkj; omega
      rw [show j - k = (j - (k + 1)) + 1 by omega] at I
      obtain ⟨n1, n2, q, n3, n4, n5, n6, n7, n8⟩ := I.next
      have hWq := hW q n4
      rw [hWq] at n5 n6 n7
      have hpos : 0 < (W q).length := List.length_pos_iff.2 n5
      refine CallVC.mk' (fun _ => next_ok K.k l I.r.tiny) (fun _ => .cons ((.many fun j hj => by (rcases (show j = 0 ∨ j = 1 ∨ j = 2 by omega) with rfl | rfl | rfl <;> exact CEq.refl _))) .nil) ?_
      rw [decide_eq_true n1, n3, n7]
      generalize nextL l = l2 at *
      repeat' first
        | (with_reducible first | refine NeedI.mk (fun h => h) ?_ | refine NeedI.mk (fun h => h.2) ?_ | refine NeedI.mk (fun h => h.1) ?_ | (show Done; exact Done.mk) | refine Both.mk (fun _ => ?_) (fun _ => ?_) | refine Both2.mk (fun _ => ?_) ?_ | (refine Need.mk ?_ ?_; (first | omega | with_reducible exact CEq.refl _ | (dsimp only; omega) | (dsimp only [rng]; omega) | (simp only [decide_eq_true_eq, decide_eq_false_iff_not, Bool.or_eq_true, Bool.and_eq_true, Bool.or_eq_false_iff, Int.toNat_natCast, addN_eq, cond_false, cond_true, rng] at *; omega) | exact ⟨rfl, rfl⟩)))
        | ((with_reducible refine Need.mk ?_ ?_); exact CEq.refl _)
        | ((with_reducible fail_if_success first | refine LoopVC.mk ?_ | refine Need.mk ?_ ?_ | refine CallVC.mk ?_ | refine LoopEnd.mk ?_ | refine Out.mk ?_ | show False | refine NeedI.mk ?_ ?_); conv => whnf)
      · rename_i h
        exfalso
        rw [Int.toNat_natCast, addN_eq, Nat.zero_add, decide_eq_false (show ¬ (q : Int) < 0 by omega), decide_eq_false (show ¬ ((5 : Nat) : Int) ≤ (q : Int) by omega), decide_eq_false (show ¬ ((W q).length : Int) = 0 by omega),
          decide_eq_true (show (W q).getD (Int.toNat 0) default = (W q).getD 0 default from rfl)] at h
        exact absurd h (by decide)
      refine LoopEnd.mk ⟨(l2, k + 1, fun r => if r = q then (W q).drop 1 else W r), ⟨hkj, n2, fun r hr => ?_⟩, by show j - (k + 1) < j - k; omega, ?_⟩
      · show cA l2 r = if r = q then (W q).drop 1 else W r
        by_cases e : r = q
        · rw [if_pos e, e]; exact n6
        · rw [if_neg e, n8 r hr e]; exact hW r hr
      · clear hQ
        (refine Le.of ?_ ?_ <;> repeat' first | exact trivial | exact CEq.refl _ | exact rfl | exact cI (by push_cast; first | rfl | omega) | exact SubE.dat fun _ _ _ _ => CEq.refl _ | refine SubE.var2 ?_ ?_ | refine SubE.var1 ?_ | refine SubE.var3 ?_ ?_ ?_ | refine SubE.var4 ?_ ?_ ?_ ?_ | refine SubE.var5 ?_ ?_ ?_ ?_ ?_ | refine SubE.varN ?_ | refine Exists.intro _ (And.intro rfl ?_) | refine And.intro ?_ ?_)
        exact SubE.dat fun r hr i hi => by
          have hi : i < 1 := hi
          obtain rfl : i = 0 := by omega
          exact pop_ceq hpos
    rename_i hkj
    have hkj : k = j := by have := of_decide_eq_false hkj; omega
    subst hkj
    rw [Nat.sub_self] at I
    refine Out.mk (hQ _ _ ?_)
    clear hQ Q
    repeat' first
      | (with_reducible first | refine NeedI.mk (fun h => h) ?_ | refine NeedI.mk (fun h => h.2) ?_ | refine NeedI.mk (fun h => h.1) ?_ | (show Done; exact Done.mk) | refine Both.mk (fun _ => ?_) (fun _ => ?_) | refine Both2.mk (fun _ => ?_) ?_ | (refine Need.mk ?_ ?_; (first | omega | with_reducible exact CEq.refl _ | (dsimp only; omega) | (dsimp only [rng]; omega) | (simp only [decide_eq_true_eq, decide_eq_false_iff_not, Bool.or_eq_true, Bool.and_eq_true, Bool.or_eq_false_iff, Int.toNat_natCast, addN_eq, cond_false, cond_true, rng] at *; omega) | exact ⟨rfl, rfl⟩)))
      | ((with_reducible refine Need.mk ?_ ?_); exact CEq.refl _)
      | ((with_reducible fail_if_success first | refine LoopVC.mk ?_ | refine Need.mk ?_ ?_ | refine CallVC.mk ?_ | refine LoopEnd.mk ?_ | refine Out.mk ?_ | show False | refine NeedI.mk ?_ ?_); conv => whnf)
    have hno := I.stop
    refine CallVC.mk' (fun _ => next_ok K.k l I.r.tiny) (fun _ => .cons ((.many fun j hj => by (rcases (show j = 0 ∨ j = 1 ∨ j = 2 by omega) with rfl | rfl | rfl <;> exact CEq.refl _))) .nil) ?_
    rw [decide_eq_false hno]
    repeat' first
      | (with_reducible first | refine NeedI.mk (fun h => h) ?_ | refine NeedI.mk (fun h => h.2) ?_ | refine NeedI.mk (fun h => h.1) ?_ | (show Done; exact Done.mk) | refine Both.mk (fun _ => ?_) (fun _ => ?_) | refine Both2.mk (fun _ => ?_) ?_ | (refine Need.mk ?_ ?_; (first | omega | with_reducible exact CEq.refl _ | (dsimp only; omega) | (dsimp only [rng]; omega) | (simp only [decide_eq_true_eq, decide_eq_false_iff_not, Bool.or_eq_true, Bool.and_eq_true, Bool.or_eq_false_iff, Int.toNat_natCast, addN_eq, cond_false, cond_true, rng] at *; omega) | exact ⟨rfl, rfl⟩)))
      | ((with_reducible refine Need.mk ?_ ?_); exact CEq.refl _)
      | ((with_reducible fail_if_success first | refine LoopVC.mk ?_ | refine Need.mk ?_ ?_ | refine CallVC.mk ?_ | refine LoopEnd.mk ?_ | refine Out.mk ?_ | show False | refine NeedI.mk ?_ ?_); conv => whnf)
    refine CallVC.mk' (fun _ => awake_ok K) (fun _ => .nil) ?_
    repeat' first
      | (with_reducible first | refine NeedI.mk (fun h => h) ?_ | refine NeedI.mk (fun h => h.2) ?_ | refine NeedI.mk (fun h => h.1) ?_ | (show Done; exact Done.mk) | refine Both.mk (fun _ => ?_) (fun _ => ?_) | refine Both2.mk (fun _ => ?_) ?_ | (refine Need.mk ?_ ?_; (first | omega | with_reducible exact CEq.refl _ | (dsimp only; omega) | (dsimp only [rng]; omega) | (simp only [decide_eq_true_eq, decide_eq_false_iff_not, Bool.or_eq_true, Bool.and_eq_true, Bool.or_eq_false_iff, Int.toNat_natCast, addN_eq, cond_false, cond_true, rng] at *; omega) | exact ⟨rfl, rfl⟩)))
      | ((with_reducible refine Need.mk ?_ ?_); exact CEq.refl _)
      | ((with_reducible fail_if_success first | refine LoopVC.mk ?_ | refine Need.mk ?_ ?_ | refine CallVC.mk ?_ | refine LoopEnd.mk ?_ | refine Out.mk ?_ | show False | refine NeedI.mk ?_ ?_); conv => whnf)
  · refine LoopVC.inv (X := Ls × Nat × (Nat → List Int)) (fun x => LA 6 x.2.1 x.1 ∧ x.2.1 ≤ M ∧ ∀ r, r < 6 → cA x.1 r = x.2.2 r)
      (fun x => stL [(5, .os 44 0 1 0 6), (7, .va 7 0 0), (9, .os 64 0 1 0 6), (10, .c (.int .i64 M)), (70, .c (.sl 2 M fun i j => u2E (costs.getD i default) j)), (71, .c (.int .i64 M)), (72, .c (.int .i64 x.2.1))]
        [(7, vE [.c (slL 3 lnE x.1.list), .c (.int .i64 x.1.at_), .c (.bool x.1.given)]), (44, ⟨1, 6, .dat fun r j => intE (w.getD r default) j, true, true⟩), (64, ⟨1, 6, wA x.2.2, false, true⟩), (2000, wE x.2.2 0), (2001, wE x.2.2 1), (2002, wE x.2.2 2), (2003, wE x.2.2 3), (2004, wE x.2.2 4), (2005, wE x.2.2 5)]) (fun x => M - x.2.1) ⟨l0, 0, fun _ => []⟩ ⟨hst, Nat.zero_le _, hz⟩ ?_ ?_
    · (refine Le.ofN [2000,2001,2002,2003,2004,2005] ?_ ?_ <;> repeat' first | exact trivial | exact SubF.inr ⟨_, _, _, rfl, rfl, rfl⟩ | exact SubF.inl (cI (by push_cast; first | rfl | omega)) | exact SubF.inl (CEq.refl _) | exact SubF.inl rfl | exact SubF.inl trivial | exact SubF.inl ⟨rfl, rfl, rfl⟩ | exact SubF.inl ⟨rfl, rfl, rfl, rfl, rfl⟩ | exact Or.inl ⟨rfl, rfl⟩ | refine Or.inr ⟨rfl, _, rfl, ?_⟩ | refine SubEF.var2 ?_ ?_ | refine SubEF.var1 ?_ | refine SubEF.var3 ?_ ?_ ?_ | refine SubEF.varN ?_ | refine SubEF.var4 ?_ ?_ ?_ ?_ | exact SubEF.of (SubE.dat fun _ _ _ _ => CEq.refl _) | refine And.intro ?_ ?_ | refine SubF.frz rfl rfl rfl rfl (Nat.le_of_eq (Nat.zero_add _)) rfl rfl ?_)
      exact ⟨rfl, rfl, id, id, fun r hr j hj => by
        have hj : j < 1 := hj
        have hr : r < 6 := hr
        obtain rfl : j = 0 := by omega
        rcases (show r = 0 ∨ r = 1 ∨ r = 2 ∨ r = 3 ∨ r = 4 ∨ r = 5 by omega) with rfl | rfl | rfl | rfl | rfl | rfl <;> exact SubF.inr ⟨_, _, _, rfl, rfl, rfl⟩⟩
    rintro Q hQ ⟨l, j, W⟩ ⟨I, hj, hW⟩
    dsimp only at I hj hW
    dsimp only
    repeat' first
      | (with_reducible first | refine NeedI.mk (fun h => h) ?_ | refine NeedI.mk (fun h => h.2) ?_ | refine NeedI.mk (fun h => h.1) ?_ | (show Done; exact Done.mk) | refine Both.mk (fun _ => ?_) (fun _ => ?_) | refine Both2.mk (fun _ => ?_) ?_ | (refine Need.mk ?_ ?_; (first | omega | with_reducible exact CEq.refl _ | (dsimp only; omega) | (dsimp only [rng]; omega) | (simp only [decide_eq_true_eq, decide_eq_false_iff_not, Bool.or_eq_true, Bool.and_eq_true, Bool.or_eq_false_iff, Int.toNat_natCast, addN_eq, cond_false, cond_true, rng] at *; omega) | exact ⟨rfl, rfl⟩)))
      | ((with_reducible refine Need.mk ?_ ?_); exact CEq.refl _)
      | ((with_reducible fail_if_success first | refine LoopVC.mk ?_ | refine Need.mk ?_ ?_ | refine CallVC.mk ?_ | refine LoopEnd.mk ?_ | refine Out.mk ?_ | show False | refine NeedI.mk ?_ ?_); conv => whnf)
    · rename_i hjl
      have hjl : j < M := by have := of_decide_eq_true hjl; omega
      have hu : ∀ u : UInt8, u.toNat < 256 := fun u => u.toNat_lt
      have hu0 := hu (costs.getD j default).1
      have hu1 := hu (costs.getD j default).2
      have hWl : ∀ r, r < 6 → (W r).length ≤ 150 := fun r hr => by
        have h5 := lft_le (l := l.list) (k := r) (by rw [I.nn]; exact hr)
        rw [I.ll] at h5
        rw [← hW r hr]
        show (l.list.getD r default).costs.length ≤ 150
        omega
      refine Need.mk rfl ?_
      repeat' first
        | (with_reducible first | refine NeedI.mk (fun h => h) ?_ | refine NeedI.mk (fun h => h.2) ?_ | refine NeedI.mk (fun h => h.1) ?_ | (show Done; exact Done.mk) | refine Both.mk (fun _ => ?_) (fun _ => ?_) | refine Both2.mk (fun _ => ?_) ?_ | (refine Need.mk ?_ ?_; (first | omega | with_reducible exact CEq.refl _ | (dsimp only; omega) | (dsimp only [rng]; omega) | (simp only [decide_eq_true_eq, decide_eq_false_iff_not, Bool.or_eq_true, Bool.and_eq_true, Bool.or_eq_false_iff, Int.toNat_natCast, addN_eq, cond_false, cond_true, rng] at *; omega) | exact ⟨rfl, rfl⟩)))
        | ((with_reducible refine Need.mk ?_ ?_); exact CEq.refl _)
        | ((with_reducible fail_if_success first | refine LoopVC.mk ?_ | refine Need.mk ?_ ?_ | refine CallVC.mk ?_ | refine LoopEnd.mk ?_ | refine Out.mk ?_ | show False | refine NeedI.mk ?_ ?_); conv => whnf)
      rw [Int.toNat_natCast]
      generalize (costs.getD j default).1.toNat = u0 at *
      generalize (costs.getD j default).2.toNat = u1 at *
      obtain ⟨c, hc⟩ : ∃ c : Int, 1 + (u1 : Int) % 8 = c := ⟨_, rfl⟩
      rw [hc]
      have hcb : 1 ≤ c ∧ c ≤ 8 := by omega
      clear hc hu hu1
      rcases (show (u0 : Int) % ((6 : Nat) : Int) = ((0 : Nat) : Int) ∨ (u0 : Int) % ((6 : Nat) : Int) = ((1 : Nat) : Int) ∨ (u0 : Int) % ((6 : Nat) : Int) = ((2 : Nat) : Int) ∨ (u0 : Int) % ((6 : Nat) : Int) = ((3 : Nat) : Int) ∨ (u0 : Int) % ((6 : Nat) : Int) = ((4 : Nat) : Int) ∨ (u0 : Int) % ((6 : Nat) : Int) = ((5 : Nat) : Int) by omega) with e | e | e | e | e | e
      · rw [e]
        clear e hu0
        obtain ⟨p1, p2, p3, p4⟩ := I.push (k := 0) (by omega) hcb (by omega)
        refine CallVC.mk' (fun _ => push_ok K.k l ((0 : Nat) : Int) c I.r.tiny) (fun _ => .cons ((.many fun j hj => by (rcases (show j = 0 ∨ j = 1 ∨ j = 2 by omega) with rfl | rfl | rfl <;> exact CEq.refl _))) (.cons (.one (CEq.refl _)) (.cons (.one (CEq.refl _)) .nil))) ?_
        rw [p1]
        generalize pushL l ((0 : Nat) : Int) c = l2 at *
        repeat' first
          | (with_reducible first | refine NeedI.mk (fun h => h) ?_ | refine NeedI.mk (fun h => h.2) ?_ | refine NeedI.mk (fun h => h.1) ?_ | (show Done; exact Done.mk) | refine Both.mk (fun _ => ?_) (fun _ => ?_) | refine Both2.mk (fun _ => ?_) ?_ | (refine Need.mk ?_ ?_; (first | omega | with_reducible exact CEq.refl _ | (dsimp only; omega) | (dsimp only [rng]; omega) | (simp only [decide_eq_true_eq, decide_eq_false_iff_not, Bool.or_eq_true, Bool.and_eq_true, Bool.or_eq_false_iff, Int.toNat_natCast, addN_eq, cond_false, cond_true, rng] at *; omega) | exact ⟨rfl, rfl⟩)))
          | ((with_reducible refine Need.mk ?_ ?_); exact CEq.refl _)
          | ((with_reducible fail_if_success first | refine LoopVC.mk ?_ | refine Need.mk ?_ ?_ | refine CallVC.mk ?_ | refine LoopEnd.mk ?_ | refine Out.mk ?_ | show False | refine NeedI.mk ?_ ?_); conv => whnf)
        · rename_i h; exact absurd h (by decide)
        have hl5 := hWl 0 (by omega)
        refine Need.mk (by show ((W 0).length + 1) * 8 ≤ 140737488355328 ∧ (W 0).length + 1 ≤ 140737488355328; omega) ?_
        repeat' first
          | (with_reducible first | refine NeedI.mk (fun h => h) ?_ | refine NeedI.mk (fun h => h.2) ?_ | refine NeedI.mk (fun h => h.1) ?_ | (show Done; exact Done.mk) | refine Both.mk (fun _ => ?_) (fun _ => ?_) | refine Both2.mk (fun _ => ?_) ?_ | (refine Need.mk ?_ ?_; (first | omega | with_reducible exact CEq.refl _ | (dsimp only; omega) | (dsimp only [rng]; omega) | (simp only [decide_eq_true_eq, decide_eq_false_iff_not, Bool.or_eq_true, Bool.and_eq_true, Bool.or_eq_false_iff, Int.toNat_natCast, addN_eq, cond_false, cond_true, rng] at *; omega) | exact ⟨rfl, rfl⟩)))
          | ((with_reducible refine Need.mk ?_ ?_); exact CEq.refl _)
          | ((with_reducible fail_if_success first | refine LoopVC.mk ?_ | refine Need.mk ?_ ?_ | refine CallVC.mk ?_ | refine LoopEnd.mk ?_ | refine Out.mk ?_ | show False | refine NeedI.mk ?_ ?_); conv => whnf)
        refine LoopEnd.mk ⟨(l2, j + 1, ext W 0 c), ⟨p2, hjl, fun r hr => ?_⟩, by show M - (j + 1) < M - j; omega, ?_⟩
        · rcases (show r = 0 ∨ r = 1 ∨ r = 2 ∨ r = 3 ∨ r = 4 ∨ r = 5 by omega) with rfl | rfl | rfl | rfl | rfl | rfl <;> first | exact p3.trans (by rw [hW _ (by omega)]; rfl) | exact (p4 _ (by omega) (by omega)).trans (hW _ (by omega))
        · clear hQ
          have hlen := ext_len (W := W) (k := 0) (c := c)
          (refine Le.of ?_ ?_ <;> repeat' first | exact trivial | exact CEq.refl _ | exact rfl | exact cI (by push_cast; first | rfl | omega) | exact SubE.dat fun _ _ _ _ => CEq.refl _ | refine SubE.var2 ?_ ?_ | refine SubE.var1 ?_ | refine SubE.var3 ?_ ?_ ?_ | refine SubE.var4 ?_ ?_ ?_ ?_ | refine SubE.var5 ?_ ?_ ?_ ?_ ?_ | refine SubE.varN ?_ | refine Exists.intro _ (And.intro rfl ?_) | refine And.intro ?_ ?_)
          · exact ⟨rfl, rfl, id, id, fun r hr j hj => by
              have hj : j < 1 := hj
              have hr : r < 6 := hr
              obtain rfl : j = 0 := by omega
              rcases (show r = 0 ∨ r = 1 ∨ r = 2 ∨ r = 3 ∨ r = 4 ∨ r = 5 by omega) with rfl | rfl | rfl | rfl | rfl | rfl <;> first | exact ⟨rfl, rfl, rfl, rfl, rfl⟩ | exact ⟨rfl, rfl, rfl, rfl, hlen.symm⟩⟩
          · exact ⟨rfl, hlen.symm, id, id, fun i hi j hj => ext_ceq rfl i hi j hj⟩
      · rw [e]
        clear e hu0
        obtain ⟨p1, p2, p3, p4⟩ := I.push (k := 1) (by omega) hcb (by omega)
        refine CallVC.mk' (fun _ => push_ok K.k l ((1 : Nat) : Int) c I.r.tiny) (fun _ => .cons ((.many fun j hj => by (rcases (show j = 0 ∨ j = 1 ∨ j = 2 by omega) with rfl | rfl | rfl <;> exact CEq.refl _))) (.cons (.one (CEq.refl _)) (.cons (.one (CEq.refl _)) .nil))) ?_
        rw [p1]
        generalize pushL l ((1 : Nat) : Int) c = l2 at *
        repeat' first
          | (with_reducible first | refine NeedI.mk (fun h => h) ?_ | refine NeedI.mk (fun h => h.2) ?_ | refine NeedI.mk (fun h => h.1) ?_ | (show Done; exact Done.mk) | refine Both.mk (fun _ => ?_) (fun _ => ?_) | refine Both2.mk (fun _ => ?_) ?_ | (refine Need.mk ?_ ?_; (first | omega | with_reducible exact CEq.refl _ | (dsimp only; omega) | (dsimp only [rng]; omega) | (simp only [decide_eq_true_eq, decide_eq_false_iff_not, Bool.or_eq_true, Bool.and_eq_true, Bool.or_eq_false_iff, Int.toNat_natCast, addN_eq, cond_false, cond_true, rng] at *; omega) | exact ⟨rfl, rfl⟩)))
          | ((with_reducible refine Need.mk ?_ ?_); exact CEq.refl _)
          | ((with_reducible fail_if_success first | refine LoopVC.mk ?_ | refine Need.mk ?_ ?_ | refine CallVC.mk ?_ | refine LoopEnd.mk ?_ | refine Out.mk ?_ | show False | refine NeedI.mk ?_ ?_); conv => whnf)
        · rename_i h; exact absurd h (by decide)
        have hl5 := hWl 1 (by omega)
        refine Need.mk (by show ((W 1).length + 1) * 8 ≤ 140737488355328 ∧ (W 1).length + 1 ≤ 140737488355328; omega) ?_
        repeat' first
          | (with_reducible first | refine NeedI.mk (fun h => h) ?_ | refine NeedI.mk (fun h => h.2) ?_ | refine NeedI.mk (fun h => h.1) ?_ | (show Done; exact Done.mk) | refine Both.mk (fun _ => ?_) (fun _ => ?_) | refine Both2.mk (fun _ => ?_) ?_ | (refine Need.mk ?_ ?_; (first | omega | with_reducible exact CEq.refl _ | (dsimp only; omega) | (dsimp only [rng]; omega) | (simp only [decide_eq_true_eq, decide_eq_false_iff_not, Bool.or_eq_true, Bool.and_eq_true, Bool.or_eq_false_iff, Int.toNat_natCast, addN_eq, cond_false, cond_true, rng] at *; omega) | exact ⟨rfl, rfl⟩)))
          | ((with_reducible refine Need.mk ?_ ?_); exact CEq.refl _)
          | ((with_reducible fail_if_success first | refine LoopVC.mk ?_ | refine Need.mk ?_ ?_ | refine CallVC.mk ?_ | refine LoopEnd.mk ?_ | refine Out.mk ?_ | show False | refine NeedI.mk ?_ ?_); conv => whnf)
        refine LoopEnd.mk ⟨(l2, j + 1, ext W 1 c), ⟨p2, hjl, fun r hr => ?_⟩, by show M - (j + 1) < M - j; omega, ?_⟩
        · rcases (show r = 0 ∨ r = 1 ∨ r = 2 ∨ r = 3 ∨ r = 4 ∨ r = 5 by omega) with rfl | rfl | rfl | rfl | rfl | rfl <;> first | exact p3.trans (by rw [hW _ (by omega)]; rfl) | exact (p4 _ (by omega) (by omega)).trans (hW _ (by omega))
        · clear hQ
          have hlen := ext_len (W := W) (k := 1) (c := c)
          (refine Le.of ?_ ?_ <;> repeat' first | exact trivial | exact CEq.refl _ | exact rfl | exact cI (by push_cast; first | rfl | omega) | exact SubE.dat fun _ _ _ _ => CEq.refl _ | refine SubE.var2 ?_ ?_ | refine SubE.var1 ?_ | refine SubE.var3 ?_ ?_ ?_ | refine SubE.var4 ?_ ?_ ?_ ?_ | refine SubE.var5 ?_ ?_ ?_ ?_ ?_ | refine SubE.varN ?_ | refine Exists.intro _ (And.intro rfl ?_) | refine And.intro ?_ ?_)
          · exact ⟨rfl, rfl, id, id, fun r hr j hj => by
              have hj : j < 1 := hj
              have hr : r < 6 := hr
              obtain rfl : j = 0 := by omega
              rcases (show r = 0 ∨ r = 1 ∨ r = 2 ∨ r = 3 ∨ r = 4 ∨ r = 5 by omega) with rfl | rfl | rfl | rfl | rfl | rfl <;> first | exact ⟨rfl, rfl, rfl, rfl, rfl⟩ | exact ⟨rfl, rfl, rfl, rfl, hlen.symm⟩⟩
          · exact ⟨rfl, hlen.symm, id, id, fun i hi j hj => ext_ceq rfl i hi j hj⟩
      · rw [e]
        clear e hu0
        obtain ⟨p1, p2, p3, p4⟩ := I.push (k := 2) (by omega) hcb (by omega)
        refine CallVC.mk' (fun _ => push_ok K.k l ((2 : Nat) : Int) c I.r.tiny) (fun _ => .cons ((.many fun j hj => by (rcases (show j = 0 ∨ j = 1 ∨ j = 2 by omega) with rfl | rfl | rfl <;> exact CEq.refl _))) (.cons (.one (CEq.refl _)) (.cons (.one (CEq.refl _)) .nil))) ?_
        rw [p1]
        generalize pushL l ((2 : Nat) : Int) c = l2 at *
        repeat' first
          | (with_reducible first | refine NeedI.mk (fun h => h) ?_ | refine NeedI.mk (fun h => h.2) ?_ | refine NeedI.mk (fun h => h.1) ?_ | (show Done; exact Done.mk) | refine Both.mk (fun _ => ?_) (fun _ => ?_) | refine Both2.mk (fun _ => ?_) ?_ | (refine Need.mk ?_ ?_; (first | omega | with_reducible exact CEq.refl _ | (dsimp only; omega) | (dsimp only [rng]; omega) | (simp only [decide_eq_true_eq, decide_eq_false_iff_not, Bool.or_eq_true, Bool.and_eq_true, Bool.or_eq_false_iff, Int.toNat_natCast, addN_eq, cond_false, cond_true, rng] at *; omega) | exact ⟨rfl, rfl⟩)))
          | ((with_reducible refine Need.mk ?_ ?_); exact CEq.refl _)
          | ((with_reducible fail_if_success first | refine LoopVC.mk ?_ | refine Need.mk ?_ ?_ | refine CallVC.mk ?_ | refine LoopEnd.mk ?_ | refine Out.mk ?_ | show False | refine NeedI.mk ?_ ?_); conv => whnf)
        · rename_i h; exact absurd h (by decide)
        have hl5 := hWl 2 (by omega)
        refine Need.mk (by show ((W 2).length + 1) * 8 ≤ 140737488355328 ∧ (W 2).length + 1 ≤ 140737488355328; omega) ?_
        repeat' first
          | (with_reducible first | refine NeedI.mk (fun h => h) ?_ | refine NeedI.mk (fun h => h.2) ?_ | refine NeedI.mk (fun h => h.1) ?_ | (show Done; exact Done.mk) | refine Both.mk (fun _ => ?_) (fun _ => ?_) | refine Both2.mk (fun _ => ?_) ?_ | (refine Need.mk ?_ ?_; (first | omega | with_reducible exact CEq.refl _ | (dsimp only; omega) | (dsimp only [rng]; omega) | (simp only [decide_eq_true_eq, decide_eq_false_iff_not, Bool.or_eq_true, Bool.and_eq_true, Bool.or_eq_false_iff, Int.toNat_natCast, addN_eq, cond_false, cond_true, rng] at *; omega) | exact ⟨rfl, rfl⟩)))
          | ((with_reducible refine Need.mk ?_ ?_); exact CEq.refl _)
          | ((with_reducible fail_if_success first | refine LoopVC.mk ?_ | refine Need.mk ?_ ?_ | refine CallVC.mk ?_ | refine LoopEnd.mk ?_ | refine Out.mk ?_ | show False | refine NeedI.mk ?_ ?_); conv => whnf)
        refine LoopEnd.mk ⟨(l2, j + 1, ext W 2 c), ⟨p2, hjl, fun r hr => ?_⟩, by show M - (j + 1) < M - j; omega, ?_⟩
        · rcases (show r = 0 ∨ r = 1 ∨ r = 2 ∨ r = 3 ∨ r = 4 ∨ r = 5 by omega) with rfl | rfl | rfl | rfl | rfl | rfl <;> first | exact p3.trans (by rw [hW _ (by omega)]; rfl) | exact (p4 _ (by omega) (by omega)).trans (hW _ (by omega))
        · clear hQ
          have hlen := ext_len (W := W) (k := 2) (c := c)
          (refine Le.of ?_ ?_ <;> repeat' first | exact trivial | exact CEq.refl _ | exact rfl | exact cI (by push_cast; first | rfl | omega) | exact SubE.dat fun _ _ _ _ => CEq.refl _ | refine SubE.var2 ?_ ?_ | refine SubE.var1 ?_ | refine SubE.var3 ?_ ?_ ?_ | refine SubE.var4 ?_ ?_ ?_ ?_ | refine SubE.var5 ?_ ?_ ?_ ?_ ?_ | refine SubE.varN ?_ | refine Exists.intro _ (And.intro rfl ?_) | refine And.intro ?_ ?_)
          · exact ⟨rfl, rfl, id, id, fun r hr j hj => by
              have hj : j < 1 := hj
              have hr : r < 6 := hr
              obtain rfl : j = 0 := by omega
              rcases (show r = 0 ∨ r = 1 ∨ r = 2 ∨ r = 3 ∨ r = 4 ∨ r = 5 by omega) with rfl | rfl | rfl | rfl | rfl | rfl <;> first | exact ⟨rfl, rfl, rfl, rfl, rfl⟩ | exact ⟨rfl, rfl, rfl, rfl, hlen.symm⟩⟩
          · exact ⟨rfl, hlen.symm, id, id, fun i hi j hj => ext_ceq rfl i hi j hj⟩
      · rw [e]
        clear e hu0
        obtain ⟨p1, p2, p3, p4⟩ := I.push (k := 3) (by omega) hcb (by omega)
        refine CallVC.mk' (fun _ => push_ok K.k l ((3 : Nat) : Int) c I.r.tiny) (fun _ => .cons ((.many fun j hj => by (rcases (show j = 0 ∨ j = 1 ∨ j = 2 by omega) with rfl | rfl | rfl <;> exact CEq.refl _))) (.cons (.one (CEq.refl _)) (.cons (.one (CEq.refl _)) .nil))) ?_
        rw [p1]
        generalize pushL l ((3 : Nat) : Int) c = l2 at *
        repeat' first
          | (with_reducible first | refine NeedI.mk (fun h => h) ?_ | refine NeedI.mk (fun h => h.2) ?_ | refine NeedI.mk (fun h => h.1) ?_ | (show Done; exact Done.mk) | refine Both.mk (fun _ => ?_) (fun _ => ?_) | refine Both2.mk (fun _ => ?_) ?_ | (refine Need.mk ?_ ?_; (first | omega | with_reducible exact CEq.refl _ | (dsimp only; omega) | (dsimp only [rng]; omega) | (simp only [decide_eq_true_eq, decide_eq_false_iff_not, Bool.or_eq_true, Bool.and_eq_true, Bool.or_eq_false_iff, Int.toNat_natCast, addN_eq, cond_false, cond_true, rng] at *; omega) | exact ⟨rfl, rfl⟩)))
          | ((with_reducible refine Need.mk ?_ ?_); exact CEq.refl _)
          | ((with_reducible fail_if_success first | refine LoopVC.mk ?_ | refine Need.mk ?_ ?_ | refine CallVC.mk ?_ | refine LoopEnd.mk ?_ | refine Out.mk ?_ | show False | refine NeedI.mk ?_ ?_); conv => whnf)
        · rename_i h; exact absurd h (by decide)
        have hl5 := hWl 3 (by omega)
        refine Need.mk (by show ((W 3).length + 1) * 8 ≤ 140737488355328 ∧ (W 3).length + 1 ≤ 140737488355328; omega) ?_
        repeat' first
          | (with_reducible first | refine NeedI.mk (fun h => h) ?_ | refine NeedI.mk (fun h => h.2) ?_ | refine NeedI.mk (fun h => h.1) ?_ | (show Done; exact Done.mk) | refine Both.mk (fun _ => ?_) (fun _ => ?_) | refine Both2.mk (fun _ => ?_) ?_ | (refine Need.mk ?_ ?_; (first | omega | with_reducible exact CEq.refl _ | (dsimp only; omega) | (dsimp only [rng]; omega) | (simp only [decide_eq_true_eq, decide_eq_false_iff_not, Bool.or_eq_true, Bool.and_eq_true, Bool.or_eq_false_iff, Int.toNat_natCast, addN_eq, cond_false, cond_true, rng] at *; omega) | exact ⟨rfl, rfl⟩)))
          | ((with_reducible refine Need.mk ?_ ?_); exact CEq.refl _)
          | ((with_reducible fail_if_success first | refine LoopVC.mk ?_ | refine Need.mk ?_ ?_ | refine CallVC.mk ?_ | refine LoopEnd.mk ?_ | refine Out.mk ?_ | show False | refine NeedI.mk ?_ ?_); conv => whnf)
        refine LoopEnd.mk ⟨(l2, j + 1, ext W 3 c), ⟨p2, hjl, fun r hr => ?_⟩, by show M - (j + 1) < M - j; omega, ?_⟩
        · rcases (show r = 0 ∨ r = 1 ∨ r = 2 ∨ r = 3 ∨ r = 4 ∨ r = 5 by omega) with rfl | rfl | rfl | rfl | rfl | rfl <;> first | exact p3.trans (by rw [hW _ (by omega)]; rfl) | exact (p4 _ (by omega) (by omega)).trans (hW _ (by omega))
        · clear hQ
          have hlen := ext_len (W := W) (k := 3) (c := c)
          (refine Le.of ?_ ?_ <;> repeat' first | exact trivial | exact CEq.refl _ | exact rfl | exact cI (by push_cast; first | rfl | omega) | exact SubE.dat fun _ _ _ _ => CEq.refl _ | refine SubE.var2 ?_ ?_ | refine SubE.var1 ?_ | refine SubE.var3 ?_ ?_ ?_ | refine SubE.var4 ?_ ?_ ?_ ?_ | refine SubE.var5 ?_ ?_ ?_ ?_ ?_ | refine SubE.varN ?_ | refine Exists.intro _ (And.intro rfl ?_) | refine And.intro ?_ ?_)
          · exact ⟨rfl, rfl, id, id, fun r hr j hj => by
              have hj : j < 1 := hj
              have hr : r < 6 := hr
              obtain rfl : j = 0 := by omega
              rcases (show r = 0 ∨ r = 1 ∨ r = 2 ∨ r = 3 ∨ r = 4 ∨ r = 5 by omega) with rfl | rfl | rfl | rfl | rfl | rfl <;> first | exact ⟨rfl, rfl, rfl, rfl, rfl⟩ | exact ⟨rfl, rfl, rfl, rfl, hlen.symm⟩⟩
          · exact ⟨rfl, hlen.symm, id, id, fun i hi j hj => ext_ceq rfl i hi j hj⟩
      · rw [e]
        clear e hu0
        obtain ⟨p1, p2, p3, p4⟩ := I.push (k := 4) (by omega) hcb (by omega)
        refine CallVC.mk' (fun _ => push_ok K.k l ((4 : Nat) : Int) c I.r.tiny) (fun _ => .cons ((.many fun j hj => by (rcases (show j = 0 ∨ j = 1 ∨ j = 2 by omega) with rfl | rfl | rfl <;> exact CEq.refl _))) (.cons (.one (CEq.refl _)) (.cons (.one (CEq.refl _)) .nil))) ?_
        rw [p1]
        generalize pushL l ((4 : Nat) : Int) c = l2 at *
        repeat' first
          | (with_reducible first | refine NeedI.mk (fun h => h) ?_ | refine NeedI.mk (fun h => h.2) ?_ | refine NeedI.mk (fun h => h.1) ?_ | (show Done; exact Done.mk) | refine Both.mk (fun _ => ?_) (fun _ => ?_) | refine Both2.mk (fun _ => ?_) ?_ | (refine Need.mk ?_ ?_; (first | omega | with_reducible exact CEq.refl _ | (dsimp only; omega) | (dsimp only [rng]; omega) | (simp only [decide_eq_true_eq, decide_eq_false_iff_not, Bool.or_eq_true, Bool.and_eq_true, Bool.or_eq_false_iff, Int.toNat_natCast, addN_eq, cond_false, cond_true, rng] at *; omega) | exact ⟨rfl, rfl⟩)))
          | ((with_reducible refine Need.mk ?_ ?_); exact CEq.refl _)
          | ((with_reducible fail_if_success first | refine LoopVC.mk ?_ | refine Need.mk ?_ ?_ | refine CallVC.mk ?_ | refine LoopEnd.mk ?_ | refine Out.mk ?_ | show False | refine NeedI.mk ?_ ?_); conv => whnf)
        · rename_i h; exact absurd h (by decide)
        have hl5 := hWl 4 (by omega)
        refine Need.mk (by show ((W 4).length + 1) * 8 ≤ 140737488355328 ∧ (W 4).length + 1 ≤ 140737488355328; omega) ?_
        repeat' first
          | (with_reducible first | refine NeedI.mk (fun h => h) ?_ | refine NeedI.mk (fun h => h.2) ?_ | refine NeedI.mk (fun h => h.1) ?_ | (show Done; exact Done.mk) | refine Both.mk (fun _ => ?_) (fun _ => ?_) | refine Both2.mk (fun _ => ?_) ?_ | (refine Need.mk ?_ ?_; (first | omega | with_reducible exact CEq.refl _ | (dsimp only; omega) | (dsimp only [rng]; omega) | (simp only [decide_eq_true_eq, decide_eq_false_iff_not, Bool.or_eq_true, Bool.and_eq_true, Bool.or_eq_false_iff, Int.toNat_natCast, addN_eq, cond_false, cond_true, rng] at *; omega) | exact ⟨rfl, rfl⟩)))
          | ((with_reducible refine Need.mk ?_ ?_); exact CEq.refl _)
          | ((with_reducible fail_if_success first | refine LoopVC.mk ?_ | refine Need.mk ?_ ?_ | refine CallVC.mk ?_ | refine LoopEnd.mk ?_ | refine Out.mk ?_ | show False | refine NeedI.mk ?_ ?_); conv => whnf)
        refine LoopEnd.mk ⟨(l2, j + 1, ext W 4 c), ⟨p2, hjl, fun r hr => ?_⟩, by show M - (j + 1) < M - j; omega, ?_⟩
        · rcases (show r = 0 ∨ r = 1 ∨ r = 2 ∨ r = 3 ∨ r = 4 ∨ r = 5 by omega) with rfl | rfl | rfl | rfl | rfl | rfl <;> first | exact p3.trans (by rw [hW _ (by omega)]; rfl) | exact (p4 _ (by omega) (by omega)).trans (hW _ (by omega))
        · clear hQ
          have hlen := ext_len (W := W) (k := 4) (c := c)
          (refine Le.of ?_ ?_ <;> repeat' first | exact trivial | exact CEq.refl _ | exact rfl | exact cI (by push_cast; first | rfl | omega) | exact SubE.dat fun _ _ _ _ => CEq.refl _ | refine SubE.var2 ?_ ?_ | refine SubE.var1 ?_ | refine SubE.var3 ?_ ?_ ?_ | refine SubE.var4 ?_ ?_ ?_ ?_ | refine SubE.var5 ?_ ?_ ?_ ?_ ?_ | refine SubE.varN ?_ | refine Exists.intro _ (And.intro rfl ?_) | refine And.intro ?_ ?_)
          · exact ⟨rfl, rfl, id, id, fun r hr j hj => by
              have hj : j < 1 := hj
              have hr : r < 6 := hr
              obtain rfl : j = 0 := by omega
              rcases (show r = 0 ∨ r = 1 ∨ r = 2 ∨ r = 3 ∨ r = 4 ∨ r = 5 by omega) with rfl | rfl | rfl | rfl | rfl | rfl <;> first | exact ⟨rfl, rfl, rfl, rfl, rfl⟩ | exact ⟨rfl, rfl, rfl, rfl, hlen.symm⟩⟩
          · exact ⟨rfl, hlen.symm, id, id, fun i hi j hj => ext_ceq rfl i hi j hj⟩
      · rw [e]
        clear e hu0
        obtain ⟨p1, p2, p3, p4⟩ := I.push (k := 5) (by omega) hcb (by omega)
        refine CallVC.mk' (fun _ => push_ok K.k l ((5 : Nat) : Int) c I.r.tiny) (fun _ => .cons ((.many fun j hj => by (rcases (show j = 0 ∨ j = 1 ∨ j = 2 by omega) with rfl | rfl | rfl <;> exact CEq.refl _))) (.cons (.one (CEq.refl _)) (.cons (.one (CEq.refl _)) .nil))) ?_
        rw [p1]
        generalize pushL l ((5 : Nat) : Int) c = l2 at *
        repeat' first
          | (with_reducible first | refine NeedI.mk (fun h => h) ?_ | refine NeedI.mk (fun h => h.2) ?_ | refine NeedI.mk (fun h => h.1) ?_ | (show Done; exact Done.mk) | refine Both.mk (fun _ => ?_) (fun _ => ?_) | refine Both2.mk (fun _ => ?_) ?_ | (refine Need.mk ?_ ?_; (first | omega | with_reducible exact CEq.refl _ | (dsimp only; omega) | (dsimp only [rng]; omega) | (simp only [decide_eq_true_eq, decide_eq_false_iff_not, Bool.or_eq_true, Bool.and_eq_true, Bool.or_eq_false_iff, Int.toNat_natCast, addN_eq, cond_false, cond_true, rng] at *; omega) | exact ⟨rfl, rfl⟩)))
          | ((with_reducible refine Need.mk ?_ ?_); exact CEq.refl _)
          | ((with_reducible fail_if_success first | refine LoopVC.mk ?_ | refine Need.mk ?_ ?_ | refine CallVC.mk ?_ | refine LoopEnd.mk ?_ | refine Out.mk ?_ | show False | refine NeedI.mk ?_ ?_); conv => whnf)
        · rename_i h; exact absurd h (by decide)
        have hl5 := hWl 5 (by omega)
        refine Need.mk (by show ((W 5).length + 1) * 8 ≤ 140737488355328 ∧ (W 5).length + 1 ≤ 140737488355328; omega) ?_
        repeat' first
          | (with_reducible first | refine NeedI.mk (fun h => h) ?_ | refine NeedI.mk (fun h => h.2) ?_ | refine NeedI.mk (fun h => h.1) ?_ | (show Done; exact Done.mk) | refine Both.mk (fun _ => ?_) (fun _ => ?_) | refine Both2.mk (fun _ => ?_) ?_ | (refine Need.mk ?_ ?_; (first | omega | with_reducible exact CEq.refl _ | (dsimp only; omega) | (dsimp only [rng]; omega) | (simp only [decide_eq_true_eq, decide_eq_false_iff_not, Bool.or_eq_true, Bool.and_eq_true, Bool.or_eq_false_iff, Int.toNat_natCast, addN_eq, cond_false, cond_true, rng] at *; omega) | exact ⟨rfl, rfl⟩)))
          | ((with_reducible refine Need.mk ?_ ?_); exact CEq.refl _)
          | ((with_reducible fail_if_success first | refine LoopVC.mk ?_ | refine Need.mk ?_ ?_ | refine CallVC.mk ?_ | refine LoopEnd.mk ?_ | refine Out.mk ?_ | show False | refine NeedI.mk ?_ ?_); conv => whnf)
        refine LoopEnd.mk ⟨(l2, j + 1, ext W 5 c), ⟨p2, hjl, fun r hr => ?_⟩, by show M - (j + 1) < M - j; omega, ?_⟩
        · rcases (show r = 0 ∨ r = 1 ∨ r = 2 ∨ r = 3 ∨ r = 4 ∨ r = 5 by omega) with rfl | rfl | rfl | rfl | rfl | rfl <;> first | exact p3.trans (by rw [hW _ (by omega)]; rfl) | exact (p4 _ (by omega) (by omega)).trans (hW _ (by omega))
        · clear hQ
          have hlen := ext_len (W := W) (k := 5) (c := c)
          (refine Le.of ?_ ?_ <;> repeat' first | exact trivial | exact CEq.refl _ | exact rfl | exact cI (by push_cast; first | rfl | omega) | exact SubE.dat fun _ _ _ _ => CEq.refl _ | refine SubE.var2 ?_ ?_ | refine SubE.var1 ?_ | refine SubE.var3 ?_ ?_ ?_ | refine SubE.var4 ?_ ?_ ?_ ?_ | refine SubE.var5 ?_ ?_ ?_ ?_ ?_ | refine SubE.varN ?_ | refine Exists.intro _ (And.intro rfl ?_) | refine And.intro ?_ ?_)
          · exact ⟨rfl, rfl, id, id, fun r hr j hj => by
              have hj : j < 1 := hj
              have hr : r < 6 := hr
              obtain rfl : j = 0 := by omega
              rcases (show r = 0 ∨ r = 1 ∨ r = 2 ∨ r = 3 ∨ r = 4 ∨ r = 5 by omega) with rfl | rfl | rfl | rfl | rfl | rfl <;> first | exact ⟨rfl, rfl, rfl, rfl, rfl⟩ | exact ⟨rfl, rfl, rfl, rfl, hlen.symm⟩⟩
          · exact ⟨rfl, hlen.symm, id, id, fun i hi j hj => ext_ceq rfl i hi j hj⟩
    rename_i hjl
    have hjl : j = M := by have := of_decide_eq_false hjl; omega
    subst hjl
    refine Out.mk (hQ _ _ ?_)
    clear hQ Q hj hst hz
    repeat' first
      | (with_reducible first | refine NeedI.mk (fun h => h) ?_ | refine NeedI.mk (fun h => h.2) ?_ | refine NeedI.mk (fun h => h.1) ?_ | (show Done; exact Done.mk) | refine Both.mk (fun _ => ?_) (fun _ => ?_) | refine Both2.mk (fun _ => ?_) ?_ | (refine Need.mk ?_ ?_; (first | omega | with_reducible exact CEq.refl _ | (dsimp only; omega) | (dsimp only [rng]; omega) | (simp only [decide_eq_true_eq, decide_eq_false_iff_not, Bool.or_eq_true, Bool.and_eq_true, Bool.or_eq_false_iff, Int.toNat_natCast, addN_eq, cond_false, cond_true, rng] at *; omega) | exact ⟨rfl, rfl⟩)))
      | ((with_reducible refine Need.mk ?_ ?_); exact CEq.refl _)
      | ((with_reducible fail_if_success first | refine LoopVC.mk ?_ | refine Need.mk ?_ ?_ | refine CallVC.mk ?_ | refine LoopEnd.mk ?_ | refine Out.mk ?_ | show False | refine NeedI.mk ?_ ?_); conv => whnf)
    refine LoopVC.inv (X := Ls × Nat × (Nat → List Int)) (fun x => x.2.1 ≤ j ∧ LA 6 (j - x.2.1) x.1 ∧ ∀ r, r < 6 → cA x.1 r = x.2.2 r)
      (fun x => stL [(5, .os 44 0 1 0 6), (7, .va 7 0 0), (9, .os 64 0 1 0 6), (108, .c (.int .i64 j)), (109, .c (.int .i64 x.2.1))]
        [(7, vE [.c (slL 3 lnE x.1.list), .c (.int .i64 x.1.at_), .c (.bool x.1.given)]), (44, ⟨1, 6, .dat fun r j => intE (w.getD r default) j, true, true⟩), (64, ⟨1, 6, .dat fun r _ => slL 1 intE (x.2.2 r), false, true⟩)]) (fun x => j - x.2.1) ⟨l, 0, W⟩ ⟨Nat.zero_le _, I, hW⟩ ?_ ?_
    · refine Le.trans (s2 := stL [(5, .os 44 0 1 0 6), (7, .va 7 0 0), (9, .os 64 0 1 0 6), (108, .c (.int .i64 j)), (109, .c (.int .i64 (0 : Nat)))]
        [(7, vE [.c (slL 3 lnE l.list), .c (.int .i64 l.at_), .c (.bool l.given)]), (44, ⟨1, 6, .dat fun r j => intE (w.getD r default) j, true, true⟩), (64, ⟨1, 6, wA W, false, true⟩), (2000, wEz W 0), (2001, wEz W 1), (2002, wEz W 2), (2003, wEz W 3), (2004, wEz W 4), (2005, wEz W 5)]) ?_ ?_
      · (refine Le.of ?_ ?_ <;> repeat' first | exact trivial | exact CEq.refl _ | exact rfl | exact cI (by push_cast; first | rfl | omega) | exact SubE.dat fun _ _ _ _ => CEq.refl _ | refine SubE.var2 ?_ ?_ | refine SubE.var1 ?_ | refine SubE.var3 ?_ ?_ ?_ | refine SubE.var4 ?_ ?_ ?_ ?_ | refine SubE.var5 ?_ ?_ ?_ ?_ ?_ | refine SubE.varN ?_ | refine Exists.intro _ (And.intro rfl ?_) | refine And.intro ?_ ?_)
        all_goals first | exact ⟨rfl, rfl, fun _ => rfl, id, fun i hi j hj => CEq.refl _⟩ | exact ⟨rfl, rfl, id, id, fun r hr j hj => ⟨rfl, rfl, rfl, rfl, rfl⟩⟩
      (refine Le.ofN [] ?_ ?_ <;> repeat' first | exact trivial | exact SubF.inr ⟨_, _, _, rfl, rfl, rfl⟩ | exact SubF.inl (cI (by push_cast; first | rfl | omega)) | exact SubF.inl (CEq.refl _) | exact SubF.inl rfl | exact SubF.inl trivial | exact SubF.inl ⟨rfl, rfl, rfl⟩ | exact SubF.inl ⟨rfl, rfl, rfl, rfl, rfl⟩ | exact Or.inl ⟨rfl, rfl⟩ | refine Or.inr ⟨rfl, _, rfl, ?_⟩ | refine SubEF.var2 ?_ ?_ | refine SubEF.var1 ?_ | refine SubEF.var3 ?_ ?_ ?_ | refine SubEF.varN ?_ | refine SubEF.var4 ?_ ?_ ?_ ?_ | exact SubEF.of (SubE.dat fun _ _ _ _ => CEq.refl _) | refine And.intro ?_ ?_ | refine SubF.frz rfl rfl rfl rfl (Nat.le_of_eq (Nat.zero_add _)) rfl rfl ?_)
      exact ⟨rfl, rfl, id, id, fun r hr j hj => by
        have hj : j < 1 := hj
        have hr : r < 6 := hr
        obtain rfl : j = 0 := by omega
        rcases (show r = 0 ∨ r = 1 ∨ r = 2 ∨ r = 3 ∨ r = 4 ∨ r = 5 by omega) with rfl | rfl | rfl | rfl | rfl | rfl <;> exact SubF.frz rfl rfl rfl rfl (Nat.le_of_eq (Nat.zero_add _)) rfl rfl (wE_ceq)⟩
    clear I hW
    rintro Q hQ ⟨l, k, W⟩ ⟨hk, I, hW⟩
    dsimp only at I hk hW
    dsimp only
    repeat' first
      | (with_reducible first | refine NeedI.mk (fun h => h) ?_ | refine NeedI.mk (fun h => h.2) ?_ | refine NeedI.mk (fun h => h.1) ?_ | (show Done; exact Done.mk) | refine Both.mk (fun _ => ?_) (fun _ => ?_) | refine Both2.mk (fun _ => ?_) ?_ | (refine Need.mk ?_ ?_; (first | omega | with_reducible exact CEq.refl _ | (dsimp only; omega) | (dsimp only [rng]; omega) | (simp only [decide_eq_true_eq, decide_eq_false_iff_not, Bool.or_eq_true, Bool.and_eq_true, Bool.or_eq_false_iff, Int.toNat_natCast, addN_eq, cond_false, cond_true, rng] at *; omega) | exact ⟨rfl, rfl⟩)))
      | ((with_reducible refine Need.mk ?_ ?_); exact CEq.refl _)
      | ((with_reducible fail_if_success first | refine LoopVC.mk ?_ | refine Need.mk ?_ ?_ | refine CallVC.mk ?_ | refine LoopEnd.mk ?_ | refine Out.mk ?_ | show False | refine NeedI.mk ?_ ?_); conv => whnf)
    · rename_i hkj
      have hkj : k < j := by have := of_decide_eq_true hkj; omega
      rw [show j - k = (j - (k + 1)) + 1 by omega] at I
      obtain ⟨n1, n2, q, n3, n4, n5, n6, n7, n8⟩ := I.next
      have hWq := hW q n4
      rw [hWq] at n5 n6 n7
      have hpos : 0 < (W q).length := List.length_pos_iff.2 n5
      refine CallVC.mk' (fun _ => next_ok K.k l I.r.tiny) (fun _ => .cons ((.many fun j hj => by (rcases (show j = 0 ∨ j = 1 ∨ j = 2 by omega) with rfl | rfl | rfl <;> exact CEq.refl _))) .nil) ?_
      rw [decide_eq_true n1, n3, n7]
      generalize nextL l = l2 at *
      repeat' first
        | (with_reducible first | refine NeedI.mk (fun h => h) ?_ | refine NeedI.mk (fun h => h.2) ?_ | refine NeedI.mk (fun h => h.1) ?_ | (show Done; exact Done.mk) | refine Both.mk (fun _ => ?_) (fun _ => ?_) | refine Both2.mk (fun _ => ?_) ?_ | (refine Need.mk ?_ ?_; (first | omega | with_reducible exact CEq.refl _ | (dsimp only; omega) | (dsimp only [rng]; omega) | (simp only [decide_eq_true_eq, decide_eq_false_iff_not, Bool.or_eq_true, Bool.and_eq_true, Bool.or_eq_false_iff, Int.toNat_natCast, addN_eq, cond_false, cond_true, rng] at *; omega) | exact ⟨rfl, rfl⟩)))
        | ((with_reducible refine Need.mk ?_ ?_); exact CEq.refl _)
        | ((with_reducible fail_if_success first | refine LoopVC.mk ?_ | refine Need.mk ?_ ?_ | refine CallVC.mk ?_ | refine LoopEnd.mk ?_ | refine Out.mk ?_ | show False | refine NeedI.mk ?_ ?_); conv => whnf)
      · rename_i h
        exfalso
        rw [Int.toNat_natCast, addN_eq, Nat.zero_add, decide_eq_false (show ¬ (q : Int) < 0 by omega), decide_eq_false (show ¬ ((6 : Nat) : Int) ≤ (q : Int) by omega), decide_eq_false (show ¬ ((W q).length : Int) = 0 by omega),
          decide_eq_true (show (W q).getD (Int.toNat 0) default = (W q).getD 0 default from rfl)] at h
        exact absurd h (by decide)
      refine LoopEnd.mk ⟨(l2, k + 1, fun r => if r = q then (W q).drop 1 else W r), ⟨hkj, n2, fun r hr => ?_⟩, by show j - (k + 1) < j - k; omega, ?_⟩
      · show cA l2 r = if r = q then (W q).drop 1 else W r
        by_cases e : r = q
        · rw [if_pos e, e]; exact n6
        · rw [if_neg e, n8 r hr e]; exact hW r hr
      · clear hQ
        (refine Le.of ?_ ?_ <;> repeat' first | exact trivial | exact CEq.refl _ | exact rfl | exact cI (by push_cast; first | rfl | omega) | exact SubE.dat fun _ _ _ _ => CEq.refl _ | refine SubE.var2 ?_ ?_ | refine SubE.var1 ?_ | refine SubE.var3 ?_ ?_ ?_ | refine SubE.var4 ?_ ?_ ?_ ?_ | refine SubE.var5 ?_ ?_ ?_ ?_ ?_ | refine SubE.varN ?_ | refine Exists.intro _ (And.intro rfl ?_) | refine And.intro ?_ ?_)
        exact SubE.dat fun r hr i hi => by
          have hi : i < 1 := hi
          obtain rfl : i = 0 := by omega
          exact pop_ceq hpos
    rename_i hkj
    have hkj : k = j := by have := of_decide_eq_false hkj; omega
    subst hkj
    rw [Nat.sub_self] at I
    refine Out.mk (hQ _ _ ?_)
    clear hQ Q
    repeat' first
      | (with_reducible first | refine NeedI.mk (fun h => h) ?_ | refine NeedI.mk (fun h => h.2) ?_ | refine NeedI.mk (fun h => h.1) ?_ | (show Done; exact Done.mk) | refine Both.mk (fun _ => ?_) (fun _ => ?_) | refine Both2.mk (fun _ => ?_) ?_ | (refine Need.mk ?_ ?_; (first | omega | with_reducible exact CEq.refl _ | (dsimp only; omega) | (dsimp only [rng]; omega) | (simp only [decide_eq_true_eq, decide_eq_false_iff_not, Bool.or_eq_true, Bool.and_eq_true, Bool.or_eq_false_iff, Int.toNat_natCast, addN_eq, cond_false, cond_true, rng] at *; omega) | exact ⟨rfl, rfl⟩)))
      | ((with_reducible refine Need.mk ?_ ?_); exact CEq.refl _)
      | ((with_reducible fail_if_success first | refine LoopVC.mk ?_ | refine Need.mk ?_ ?_ | refine CallVC.mk ?_ | refine LoopEnd.mk ?_ | refine Out.mk ?_ | show False | refine NeedI.mk ?_ ?_); conv => whnf)
    have hno := I.stop
    refine CallVC.mk' (fun _ => next_ok K.k l I.r.tiny) (fun _ => .cons ((.many fun j hj => by (rcases (show j = 0 ∨ j = 1 ∨ j = 2 by omega) with rfl | rfl | rfl <;> exact CEq.refl _))) .nil) ?_
    rw [decide_eq_false hno]
    repeat' first
      | (with_reducible first | refine NeedI.mk (fun h => h) ?_ | refine NeedI.mk (fun h => h.2) ?_ | refine NeedI.mk (fun h => h.1) ?_ | (show Done; exact Done.mk) | refine Both.mk (fun _ => ?_) (fun _ => ?_) | refine Both2.mk (fun _ => ?_) ?_ | (refine Need.mk ?_ ?_; (first | omega | with_reducible exact CEq.refl _ | (dsimp only; omega) | (dsimp only [rng]; omega) | (simp only [decide_eq_true_eq, decide_eq_false_iff_not, Bool.or_eq_true, Bool.and_eq_true, Bool.or_eq_false_iff, Int.toNat_natCast, addN_eq, cond_false, cond_true, rng] at *; omega) | exact ⟨rfl, rfl⟩)))
      | ((with_reducible refine Need.mk ?_ ?_); exact CEq.refl _)
      | ((with_reducible fail_if_success first | refine LoopVC.mk ?_ | refine Need.mk ?_ ?_ | refine CallVC.mk ?_ | refine LoopEnd.mk ?_ | refine Out.mk ?_ | show False | refine NeedI.mk ?_ ?_); conv => whnf)
    refine CallVC.mk' (fun _ => awake_ok K) (fun _ => .nil) ?_
    repeat' first
      | (with_reducible first | refine NeedI.mk (fun h => h) ?_ | refine NeedI.mk (fun h => h.2) ?_ | refine NeedI.mk (fun h => h.1) ?_ | (show Done; exact Done.mk) | refine Both.mk (fun _ => ?_) (fun _ => ?_) | refine Both2.mk (fun _ => ?_) ?_ | (refine Need.mk ?_ ?_; (first | omega | with_reducible exact CEq.refl _ | (dsimp only; omega) | (dsimp only [rng]; omega) | (simp only [decide_eq_true_eq, decide_eq_false_iff_not, Bool.or_eq_true, Bool.and_eq_true, Bool.or_eq_false_iff, Int.toNat_natCast, addN_eq, cond_false, cond_true, rng] at *; omega) | exact ⟨rfl, rfl⟩)))
      | ((with_reducible refine Need.mk ?_ ?_); exact CEq.refl _)
      | ((with_reducible fail_if_success first | refine LoopVC.mk ?_ | refine Need.mk ?_ ?_ | refine CallVC.mk ?_ | refine LoopEnd.mk ?_ | refine Out.mk ?_ | show False | refine NeedI.mk ?_ ?_); conv => whnf)
end
end Lk.S05
