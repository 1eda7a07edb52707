/-
  Chapter 12: JournalMany.
-/
import Derived.Test.YtihjalnebgjmgaaW12t
namespace Lk.S12
open Go Lk Lk.C Lk.S03

/-- What a disk of pages, and what is wanted of it, have to do with one another. -/
structure ManyI (d : Dsk) (want : List (List UInt8)) : Prop where
  c : Calm d
  z : d.read 0 = zs
  n : want.length = 17
  g : ∀ q, 1 ≤ q → q ≤ 16 → want.getD q default = [] ∨ getS d q = want.getD q default

theorem ManyI.step {d : Dsk} {want : List (List UInt8)} {p : Nat} {data : List UInt8} (h : ManyI d want) (h1 : 1 ≤ p) (h2 : p ≤ 16) (hd : data.length = 32) : ManyI (runL d (plan p data)) (want.set p data) := by
  refine ⟨plan_calm h.c h1 h2 hd, ?_, by rw [List.length_set]; exact h.n, fun q q1 q2 => ?_⟩
  · rw [plan_rd h.c h1 h2 hd (by omega), if_pos rfl]
  · rw [getS_plan h.c h1 h2 hd q1 q2, set_getD (by rw [h.n]; omega)]
    by_cases e : q = p
    · rw [if_pos e, if_pos e.symm]; exact .inr rfl
    · rw [if_neg e, if_neg (fun x => e x.symm)]; exact h.g q q1 q2

theorem D35_0 : D35.read 0 = zs := by decide +kernel
theorem ManyI.start : ManyI D35 (List.replicate 17 []) := ⟨D35_calm, D35_0, rfl, fun q q1 q2 => .inl (by rw [getD_eq (by simp; omega)]; exact List.getElem_replicate ..)⟩

section
variable {P : Program} {F : Nat → Nat}

set_option maxHeartbeats 8000000 in
set_option maxRecDepth 100000 in
theorem journalMany_law (K : K12 P F) (hk : law12_JournalMany_k P F) (pages : List UInt8) (data : List (List UInt8)) (hp : pages.length ≤ 9223372036854775807) (hd : data.length ≤ 9223372036854775807) (hdl : ∀ s ∈ data, s.length ≤ 9223372036854775807) :
    FnOk P (F 108) [.one (slL 1 EU8.enc pages), .one (slL 1 strE data)] [.one (.im (.bool true))] := by
  refine fnOk K.j.k.m hk ?_
  repeat' first
    | with_reducible refine NeedI.mk (fun h => h) ?_
    | with_reducible refine NeedI.mk (fun h => h.2) ?_
    | with_reducible refine NeedI.mk (fun h => h.1) ?_
    | with_reducible exact Done.mk
    | with_reducible refine Both.mk (fun _ => ?_) (fun _ => ?_)
    | with_reducible refine Both2.mk (fun _ => ?_) ?_
    | with_reducible refine Need.mk (by first | omega | with_reducible exact CEq.refl _ | (dsimp only; omega) | (dsimp only [rng]; omega) | (simp only [decide_eq_true_eq, decide_eq_false_iff_not, Bool.or_eq_true, Bool.and_eq_true, Bool.or_eq_false_iff, Int.toNat_natCast, addN_eq, cond_false, cond_true, rng] at *; omega) | exact ⟨rfl, rfl⟩) ?_
    | ((with_reducible refine Need.mk ?_ ?_); exact CEq.refl _)
    | (fail_if_success with_reducible refine LoopVC.mk ?_
       fail_if_success with_reducible refine Need.mk ?_ ?_
       fail_if_success with_reducible refine CallVC.mk ?_
       fail_if_success with_reducible refine LoopEnd.mk ?_
       fail_if_success with_reducible refine Out.mk ?_
       fail_if_success with_reducible show False
       fail_if_success with_reducible refine NeedI.mk ?_ ?_
       conv => whnf)
  refine CallVC.mk' (fun _ => new_ok K.j.k.m K.j.k.new 35 K.j.k.rep) (fun _ => .cons (.one (CEq.refl _)) .nil) ?_
  rw [D35_new, D35_newE]
  repeat' first
    | with_reducible refine NeedI.mk (fun h => h) ?_
    | with_reducible refine NeedI.mk (fun h => h.2) ?_
    | with_reducible refine NeedI.mk (fun h => h.1) ?_
    | with_reducible exact Done.mk
    | with_reducible refine Both.mk (fun _ => ?_) (fun _ => ?_)
    | with_reducible refine Both2.mk (fun _ => ?_) ?_
    | with_reducible refine Need.mk (by first | omega | with_reducible exact CEq.refl _ | (dsimp only; omega) | (dsimp only [rng]; omega) | (simp only [decide_eq_true_eq, decide_eq_false_iff_not, Bool.or_eq_true, Bool.and_eq_true, Bool.or_eq_false_iff, Int.toNat_natCast, addN_eq, cond_false, cond_true, rng] at *; omega) | exact ⟨rfl, rfl⟩) ?_
    | ((with_reducible refine Need.mk ?_ ?_); exact CEq.refl _)
    | (fail_if_success with_reducible refine LoopVC.mk ?_
       fail_if_success with_reducible refine Need.mk ?_ ?_
       fail_if_success with_reducible refine CallVC.mk ?_
       fail_if_success with_reducible refine LoopEnd.mk ?_
       fail_if_success with_reducible refine Out.mk ?_
       fail_if_success with_reducible show False
       fail_if_success with_reducible refine NeedI.mk ?_ ?_
       conv => whnf)
  refine LoopVC.inv (X := Nat × Dsk × List (List UInt8)) (fun x => x.1 ≤ 30 ∧ x.1 ≤ pages.length ∧ x.1 ≤ data.length ∧ ManyI x.2.1 x.2.2)
    (fun x => stL [(0, .c (slL 1 EU8.enc pages)), (1, .c (slL 1 strE data)), (5, .va 5 0 0), (7, .ra 7 0 1 0 0), (8, .c (.int .i64 x.1))]
      [(5, vE [.c (slL 1 strE x.2.1.secs), .c (slL 2 wrE x.2.1.cache)]), (7, ⟨1, 17, .dat fun r j => strE (x.2.2.getD r default) j, false, true⟩)]) (fun x => 30 - x.1) ⟨0, D35, List.replicate 17 []⟩ ⟨by decide, Nat.zero_le _, Nat.zero_le _, ManyI.start⟩ ?_ ?_
  · (refine Le.of ?_ ?_ <;> repeat' first | exact trivial | exact CEq.refl _ | exact rfl | exact cI (by push_cast; first | rfl | omega) | exact SubE.dat fun _ _ _ _ => CEq.refl _ | refine SubE.var2 ?_ ?_ | refine SubE.var1 ?_ | refine SubE.var3 ?_ ?_ ?_ | refine SubE.var4 ?_ ?_ ?_ ?_ | refine SubE.var5 ?_ ?_ ?_ ?_ ?_ | refine Exists.intro _ (And.intro rfl ?_) | refine And.intro ?_ ?_)
    exact ⟨rfl, rfl, id, id, fun i hi j hj => by
      have hi : i < 17 := hi
      obtain rfl : j = 0 := by have hj : j < 1 := hj; omega
      refine cS ?_
      show [] = (List.replicate 17 ([] : List UInt8)).getD i default
      rw [getD_eq (by simp; omega)]; exact (List.getElem_replicate ..).symm⟩
  rintro Q hQ ⟨i, d, want⟩ ⟨hi, hip, hid, I⟩
  have hi : i ≤ 30 := hi
  have hip : i ≤ pages.length := hip
  have hid : i ≤ data.length := hid
  have I : ManyI d want := I
  dsimp only
  repeat' first
    | with_reducible refine NeedI.mk (fun h => h) ?_
    | with_reducible refine NeedI.mk (fun h => h.2) ?_
    | with_reducible refine NeedI.mk (fun h => h.1) ?_
    | with_reducible exact Done.mk
    | with_reducible refine Both.mk (fun _ => ?_) (fun _ => ?_)
    | with_reducible refine Both2.mk (fun _ => ?_) ?_
    | with_reducible refine Need.mk (by first | omega | with_reducible exact CEq.refl _ | (dsimp only; omega) | (dsimp only [rng]; omega) | (simp only [decide_eq_true_eq, decide_eq_false_iff_not, Bool.or_eq_true, Bool.and_eq_true, Bool.or_eq_false_iff, Int.toNat_natCast, addN_eq, cond_false, cond_true, rng] at *; omega) | exact ⟨rfl, rfl⟩) ?_
    | ((with_reducible refine Need.mk ?_ ?_); exact CEq.refl _)
    | (fail_if_success with_reducible refine LoopVC.mk ?_
       fail_if_success with_reducible refine Need.mk ?_ ?_
       fail_if_success with_reducible refine CallVC.mk ?_
       fail_if_success with_reducible refine LoopEnd.mk ?_
       fail_if_success with_reducible refine Out.mk ?_
       fail_if_success with_reducible show False
       fail_if_success with_reducible refine NeedI.mk ?_ ?_
       conv => whnf)
  · refine CallVC.mk' (fun _ => awake_ok K) (fun _ => .nil) ?_
    repeat' first
      | with_reducible refine NeedI.mk (fun h => h) ?_
      | with_reducible refine NeedI.mk (fun h => h.2) ?_
      | with_reducible refine NeedI.mk (fun h => h.1) ?_
      | with_reducible exact Done.mk
      | with_reducible refine Both.mk (fun _ => ?_) (fun _ => ?_)
      | with_reducible refine Both2.mk (fun _ => ?_) ?_
      | with_reducible refine Need.mk (by first | omega | with_reducible exact CEq.refl _ | (dsimp only; omega) | (dsimp only [rng]; omega) | (simp only [decide_eq_true_eq, decide_eq_false_iff_not, Bool.or_eq_true, Bool.and_eq_true, Bool.or_eq_false_iff, Int.toNat_natCast, addN_eq, cond_false, cond_true, rng] at *; omega) | exact ⟨rfl, rfl⟩) ?_
      | ((with_reducible refine Need.mk ?_ ?_); exact CEq.refl _)
      | (fail_if_success with_reducible refine LoopVC.mk ?_
         fail_if_success with_reducible refine Need.mk ?_ ?_
         fail_if_success with_reducible refine CallVC.mk ?_
         fail_if_success with_reducible refine LoopEnd.mk ?_
         fail_if_success with_reducible refine Out.mk ?_
         fail_if_success with_reducible show False
         fail_if_success with_reducible refine NeedI.mk ?_ ?_
         conv => whnf)
    refine Out.mk (hQ _ _ ?_)
    repeat' first
      | with_reducible refine NeedI.mk (fun h => h) ?_
      | with_reducible refine NeedI.mk (fun h => h.2) ?_
      | with_reducible refine NeedI.mk (fun h => h.1) ?_
      | with_reducible exact Done.mk
      | with_reducible refine Both.mk (fun _ => ?_) (fun _ => ?_)
      | with_reducible refine Both2.mk (fun _ => ?_) ?_
      | with_reducible refine Need.mk (by first | omega | with_reducible exact CEq.refl _ | (dsimp only; omega) | (dsimp only [rng]; omega) | (simp only [decide_eq_true_eq, decide_eq_false_iff_not, Bool.or_eq_true, Bool.and_eq_true, Bool.or_eq_false_iff, Int.toNat_natCast, addN_eq, cond_false, cond_true, rng] at *; omega) | exact ⟨rfl, rfl⟩) ?_
      | ((with_reducible refine Need.mk ?_ ?_); exact CEq.refl _)
      | (fail_if_success with_reducible refine LoopVC.mk ?_
         fail_if_success with_reducible refine Need.mk ?_ ?_
         fail_if_success with_reducible refine CallVC.mk ?_
         fail_if_success with_reducible refine LoopEnd.mk ?_
         fail_if_success with_reducible refine Out.mk ?_
         fail_if_success with_reducible show False
         fail_if_success with_reducible refine NeedI.mk ?_ ?_
         conv => whnf)
  · rename_i h3 h4
    simp only [Bool.and_eq_true, decide_eq_true_eq, Bool.not_eq_false', Int.toNat_natCast] at h3 h4
    have hlen : (data.getD i default).length = 32 := by omega
    obtain ⟨q, hq, hq1, hq2⟩ : ∃ q : Nat, 1 + ((pages.getD i default).toNat : Int) % 16 = (q : Int) ∧ 1 ≤ q ∧ q ≤ 16 := ⟨1 + (pages.getD i default).toNat % 16, by push_cast; rfl, by omega, by omega⟩
    have hg : planOk d q (data.getD i default) := ⟨I.c.usable, by unfold valid; omega, hlen⟩
    refine CallVC.mk' (fun _ => commit_ok K.j d q (data.getD i default) I.c.small (by omega)) (fun _ => .cons ((.many fun j hj => by (rcases (show j = 0 ∨ j = 1 by omega) with rfl | rfl <;> exact CEq.refl _))) (.cons (.one (eI (by rw [Int.toNat_natCast]; exact hq))) (.cons (.one (CEq.refl _)) .nil))) ?_
    rw [show commitD d q (data.getD i default) = runL d (plan q (data.getD i default)) from if_pos hg, show planE d q (data.getD i default) = 0 from if_pos hg]
    have I2 := I.step (p := q) hq1 hq2 hlen
    repeat' first
      | with_reducible refine NeedI.mk (fun h => h) ?_
      | with_reducible refine NeedI.mk (fun h => h.2) ?_
      | with_reducible refine NeedI.mk (fun h => h.1) ?_
      | with_reducible exact Done.mk
      | with_reducible refine Both.mk (fun _ => ?_) (fun _ => ?_)
      | with_reducible refine Both2.mk (fun _ => ?_) ?_
      | with_reducible refine Need.mk (by first | omega | with_reducible exact CEq.refl _ | (dsimp only; omega) | (dsimp only [rng]; omega) | (simp only [decide_eq_true_eq, decide_eq_false_iff_not, Bool.or_eq_true, Bool.and_eq_true, Bool.or_eq_false_iff, Int.toNat_natCast, addN_eq, cond_false, cond_true, rng] at *; omega) | exact ⟨rfl, rfl⟩) ?_
      | ((with_reducible refine Need.mk ?_ ?_); exact CEq.refl _)
      | (fail_if_success with_reducible refine LoopVC.mk ?_
         fail_if_success with_reducible refine Need.mk ?_ ?_
         fail_if_success with_reducible refine CallVC.mk ?_
         fail_if_success with_reducible refine LoopEnd.mk ?_
         fail_if_success with_reducible refine Out.mk ?_
         fail_if_success with_reducible show False
         fail_if_success with_reducible refine NeedI.mk ?_ ?_
         conv => whnf)
    · rename_i h5
      exfalso
      rw [I2.c.c] at h5; simp at h5
    · skip
      generalize hw2 : want.set q (data.getD i default) = w2 at I2
      generalize runL d (plan q (data.getD i default)) = d2 at *
      refine LoopEnd.mk ⟨(i + 1, d2, w2), ⟨by dsimp only; omega, by dsimp only; omega, by dsimp only; omega, I2⟩, by dsimp only; omega, ?_⟩
      (refine Le.of ?_ ?_ <;> repeat' first | exact trivial | exact CEq.refl _ | exact rfl | exact cI (by push_cast; first | rfl | omega) | exact SubE.dat fun _ _ _ _ => CEq.refl _ | refine SubE.var2 ?_ ?_ | refine SubE.var1 ?_ | refine SubE.var3 ?_ ?_ ?_ | refine SubE.var4 ?_ ?_ ?_ ?_ | refine SubE.var5 ?_ ?_ ?_ ?_ ?_ | refine Exists.intro _ (And.intro rfl ?_) | refine And.intro ?_ ?_)
      have e : (1 + ((pages.getD (i : Int).toNat default).toNat : Int) % 16).toNat = q := by rw [Int.toNat_natCast, hq]; exact Int.toNat_natCast q
      subst hw2
      rw [Int.toNat_natCast] at e
      show SubE _ ⟨1, 17, .dat (updC _ (1 + ((pages.getD i default).toNat : Int) % 16).toNat 0 _), _, _⟩ _
      rw [e]
      exact (IsL.refl.upd1 (CEq.refl _)).sub I2.n.symm
  · rename_i h3
    refine Out.mk (hQ _ _ ?_)
    repeat' first
      | with_reducible refine NeedI.mk (fun h => h) ?_
      | with_reducible refine NeedI.mk (fun h => h.2) ?_
      | with_reducible refine NeedI.mk (fun h => h.1) ?_
      | with_reducible exact Done.mk
      | with_reducible refine Both.mk (fun _ => ?_) (fun _ => ?_)
      | with_reducible refine Both2.mk (fun _ => ?_) ?_
      | with_reducible refine Need.mk (by first | omega | with_reducible exact CEq.refl _ | (dsimp only; omega) | (dsimp only [rng]; omega) | (simp only [decide_eq_true_eq, decide_eq_false_iff_not, Bool.or_eq_true, Bool.and_eq_true, Bool.or_eq_false_iff, Int.toNat_natCast, addN_eq, cond_false, cond_true, rng] at *; omega) | exact ⟨rfl, rfl⟩) ?_
      | ((with_reducible refine Need.mk ?_ ?_); exact CEq.refl _)
      | (fail_if_success with_reducible refine LoopVC.mk ?_
         fail_if_success with_reducible refine Need.mk ?_ ?_
         fail_if_success with_reducible refine CallVC.mk ?_
         fail_if_success with_reducible refine LoopEnd.mk ?_
         fail_if_success with_reducible refine Out.mk ?_
         fail_if_success with_reducible show False
         fail_if_success with_reducible refine NeedI.mk ?_ ?_
         conv => whnf)
    refine LoopVC.inv (fun i : Nat => i ≤ 16) (fun i => stL [(5, .va 5 0 0), (7, .ra 7 0 1 0 0), (12, .c (.int .i64 (i + 1)))]
      [(5, vE [.c (slL 1 strE d.secs), .c (slL 2 wrE d.cache)]), (7, ⟨1, 17, .dat fun r j => strE (want.getD r default) j, false, true⟩)]) (fun i => 16 - i) 0 (Nat.zero_le _) ?_ ?_
    · (refine Le.of ?_ ?_ <;> repeat' first | exact trivial | exact CEq.refl _ | exact rfl | exact cI (by push_cast; first | rfl | omega) | exact SubE.dat fun _ _ _ _ => CEq.refl _ | refine SubE.var2 ?_ ?_ | refine SubE.var1 ?_ | refine SubE.var3 ?_ ?_ ?_ | refine SubE.var4 ?_ ?_ ?_ ?_ | refine SubE.var5 ?_ ?_ ?_ ?_ ?_ | refine Exists.intro _ (And.intro rfl ?_) | refine And.intro ?_ ?_)
    rintro Q2 hQ2 k hk
    repeat' first
      | with_reducible refine NeedI.mk (fun h => h) ?_
      | with_reducible refine NeedI.mk (fun h => h.2) ?_
      | with_reducible refine NeedI.mk (fun h => h.1) ?_
      | with_reducible exact Done.mk
      | with_reducible refine Both.mk (fun _ => ?_) (fun _ => ?_)
      | with_reducible refine Both2.mk (fun _ => ?_) ?_
      | with_reducible refine Need.mk (by first | omega | with_reducible exact CEq.refl _ | (dsimp only; omega) | (dsimp only [rng]; omega) | (simp only [decide_eq_true_eq, decide_eq_false_iff_not, Bool.or_eq_true, Bool.and_eq_true, Bool.or_eq_false_iff, Int.toNat_natCast, addN_eq, cond_false, cond_true, rng] at *; omega) | exact ⟨rfl, rfl⟩) ?_
      | ((with_reducible refine Need.mk ?_ ?_); exact CEq.refl _)
      | (fail_if_success with_reducible refine LoopVC.mk ?_
         fail_if_success with_reducible refine Need.mk ?_ ?_
         fail_if_success with_reducible refine CallVC.mk ?_
         fail_if_success with_reducible refine LoopEnd.mk ?_
         fail_if_success with_reducible refine Out.mk ?_
         fail_if_success with_reducible show False
         fail_if_success with_reducible refine NeedI.mk ?_ ?_
         conv => whnf)
    · rename_i h4
      have h4 : ((k : Int) + 1) ≤ 16 := of_decide_eq_true h4
      refine CallVC.mk' (fun _ => get_ok K.j d ((k + 1 : Nat) : Int) I.c.small) (fun _ => .cons ((.many fun j hj => by (rcases (show j = 0 ∨ j = 1 by omega) with rfl | rfl <;> exact CEq.refl _))) (.cons (.one (eI (by push_cast; rfl))) .nil)) ?_
      rw [get_calm I.c (by omega) (by omega)]
      have hg := I.g (k + 1) (by omega) (by omega)
      repeat' first
        | with_reducible refine NeedI.mk (fun h => h) ?_
        | with_reducible refine NeedI.mk (fun h => h.2) ?_
        | with_reducible refine NeedI.mk (fun h => h.1) ?_
        | with_reducible exact Done.mk
        | with_reducible refine Both.mk (fun _ => ?_) (fun _ => ?_)
        | with_reducible refine Both2.mk (fun _ => ?_) ?_
        | with_reducible refine Need.mk (by first | omega | with_reducible exact CEq.refl _ | (dsimp only; omega) | (dsimp only [rng]; omega) | (simp only [decide_eq_true_eq, decide_eq_false_iff_not, Bool.or_eq_true, Bool.and_eq_true, Bool.or_eq_false_iff, Int.toNat_natCast, addN_eq, cond_false, cond_true, rng] at *; omega) | exact ⟨rfl, rfl⟩) ?_
        | ((with_reducible refine Need.mk ?_ ?_); exact CEq.refl _)
        | (fail_if_success with_reducible refine LoopVC.mk ?_
           fail_if_success with_reducible refine Need.mk ?_ ?_
           fail_if_success with_reducible refine CallVC.mk ?_
           fail_if_success with_reducible refine LoopEnd.mk ?_
           fail_if_success with_reducible refine Out.mk ?_
           fail_if_success with_reducible show False
           fail_if_success with_reducible refine NeedI.mk ?_ ?_
           conv => whnf)
      · rename_i h5
        exfalso
        have e : ((k : Int) + 1).toNat = k + 1 := by omega
        rw [e] at h5
        simp only [Bool.or_eq_true, Bool.and_eq_true, Bool.not_eq_true', decide_eq_false_iff_not] at h5
        rcases h5 with h5 | ⟨h5, h6⟩
        · simp at h5
        · exact hg.elim h5 h6
      · skip
        refine LoopEnd.mk ⟨k + 1, by omega, by omega, ?_⟩
        (refine Le.of ?_ ?_ <;> repeat' first | exact trivial | exact CEq.refl _ | exact rfl | exact cI (by push_cast; first | rfl | omega) | exact SubE.dat fun _ _ _ _ => CEq.refl _ | refine SubE.var2 ?_ ?_ | refine SubE.var1 ?_ | refine SubE.var3 ?_ ?_ ?_ | refine SubE.var4 ?_ ?_ ?_ ?_ | refine SubE.var5 ?_ ?_ ?_ ?_ ?_ | refine Exists.intro _ (And.intro rfl ?_) | refine And.intro ?_ ?_)
    · skip
      refine Out.mk (hQ2 _ _ ?_)
      repeat' first
        | with_reducible refine NeedI.mk (fun h => h) ?_
        | with_reducible refine NeedI.mk (fun h => h.2) ?_
        | with_reducible refine NeedI.mk (fun h => h.1) ?_
        | with_reducible exact Done.mk
        | with_reducible refine Both.mk (fun _ => ?_) (fun _ => ?_)
        | with_reducible refine Both2.mk (fun _ => ?_) ?_
        | with_reducible refine Need.mk (by first | omega | with_reducible exact CEq.refl _ | (dsimp only; omega) | (dsimp only [rng]; omega) | (simp only [decide_eq_true_eq, decide_eq_false_iff_not, Bool.or_eq_true, Bool.and_eq_true, Bool.or_eq_false_iff, Int.toNat_natCast, addN_eq, cond_false, cond_true, rng] at *; omega) | exact ⟨rfl, rfl⟩) ?_
        | ((with_reducible refine Need.mk ?_ ?_); exact CEq.refl _)
        | (fail_if_success with_reducible refine LoopVC.mk ?_
           fail_if_success with_reducible refine Need.mk ?_ ?_
           fail_if_success with_reducible refine CallVC.mk ?_
           fail_if_success with_reducible refine LoopEnd.mk ?_
           fail_if_success with_reducible refine Out.mk ?_
           fail_if_success with_reducible show False
           fail_if_success with_reducible refine NeedI.mk ?_ ?_
           conv => whnf)
      refine CallVC.mk' (fun _ => repair_ok K.j d I.c.small) (fun _ => .cons ((.many fun j hj => by (rcases (show j = 0 ∨ j = 1 by omega) with rfl | rfl <;> exact CEq.refl _))) .nil) ?_
      rw [repair_zs I.z]
      repeat' first
        | with_reducible refine NeedI.mk (fun h => h) ?_
        | with_reducible refine NeedI.mk (fun h => h.2) ?_
        | with_reducible refine NeedI.mk (fun h => h.1) ?_
        | with_reducible exact Done.mk
        | with_reducible refine Both.mk (fun _ => ?_) (fun _ => ?_)
        | with_reducible refine Both2.mk (fun _ => ?_) ?_
        | with_reducible refine Need.mk (by first | omega | with_reducible exact CEq.refl _ | (dsimp only; omega) | (dsimp only [rng]; omega) | (simp only [decide_eq_true_eq, decide_eq_false_iff_not, Bool.or_eq_true, Bool.and_eq_true, Bool.or_eq_false_iff, Int.toNat_natCast, addN_eq, cond_false, cond_true, rng] at *; omega) | exact ⟨rfl, rfl⟩) ?_
        | ((with_reducible refine Need.mk ?_ ?_); exact CEq.refl _)
        | (fail_if_success with_reducible refine LoopVC.mk ?_
           fail_if_success with_reducible refine Need.mk ?_ ?_
           fail_if_success with_reducible refine CallVC.mk ?_
           fail_if_success with_reducible refine LoopEnd.mk ?_
           fail_if_success with_reducible refine Out.mk ?_
           fail_if_success with_reducible show False
           fail_if_success with_reducible refine NeedI.mk ?_ ?_
           conv => whnf)
      refine CallVC.mk' (fun _ => awake_ok K) (fun _ => .nil) ?_
      repeat' first
        | with_reducible refine NeedI.mk (fun h => h) ?_
        | with_reducible refine NeedI.mk (fun h => h.2) ?_
        | with_reducible refine NeedI.mk (fun h => h.1) ?_
        | with_reducible exact Done.mk
        | with_reducible refine Both.mk (fun _ => ?_) (fun _ => ?_)
        | with_reducible refine Both2.mk (fun _ => ?_) ?_
        | with_reducible refine Need.mk (by first | omega | with_reducible exact CEq.refl _ | (dsimp only; omega) | (dsimp only [rng]; omega) | (simp only [decide_eq_true_eq, decide_eq_false_iff_not, Bool.or_eq_true, Bool.and_eq_true, Bool.or_eq_false_iff, Int.toNat_natCast, addN_eq, cond_false, cond_true, rng] at *; omega) | exact ⟨rfl, rfl⟩) ?_
        | ((with_reducible refine Need.mk ?_ ?_); exact CEq.refl _)
        | (fail_if_success with_reducible refine LoopVC.mk ?_
           fail_if_success with_reducible refine Need.mk ?_ ?_
           fail_if_success with_reducible refine CallVC.mk ?_
           fail_if_success with_reducible refine LoopEnd.mk ?_
           fail_if_success with_reducible refine Out.mk ?_
           fail_if_success with_reducible show False
           fail_if_success with_reducible refine NeedI.mk ?_ ?_
           conv => whnf)
end
end Lk.S12
