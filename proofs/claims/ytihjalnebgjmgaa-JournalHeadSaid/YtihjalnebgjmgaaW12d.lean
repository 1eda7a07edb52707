/-
  Chapter 12: headed, Plan, Get, Repair, Commit, Recover.
-/
import Derived.Test.YtihjalnebgjmgaaW12c
namespace Lk.S12
open Go Lk Lk.C Lk.S03

/-- The page that a head names, or 0. -/
def hp (s : List UInt8) : Nat := fstN (fun i => decide (s = headL (i + 1))) 16
def hdN (s : List UInt8) : Nat := if hp s < 16 then hp s + 1 else 0
theorem hdN_le (s : List UInt8) : hdN s ≤ 16 := by unfold hdN; split <;> omega
theorem hdN_spec {s : List UInt8} (h : hdN s ≠ 0) : s = headL (hdN s) := by
  unfold hdN at h ⊢
  split at h
  · rename_i hl
    rw [if_pos hl]
    have := fstN_at hl
    exact of_decide_eq_true this
  · exact absurd rfl h
theorem hdN_head {n : Nat} (h1 : 1 ≤ n) (h2 : n ≤ 16) : hdN (headL n) = n := by
  have hlt : hp (headL n) < 16 := fstN_lt_iff.2 ⟨n - 1, by omega, decide_eq_true (by congr 1; omega)⟩
  have : hdN (headL n) = hp (headL n) + 1 := if_pos hlt
  have h3 := hdN_spec (s := headL n) (by omega)
  exact (headL_inj h2 (hdN_le _) h3).symm
theorem headL_len (n : Nat) : (headL n).length = 16 := by unfold headL; simp
theorem headL_ne (n : Nat) : headL n ≠ zs := by
  intro h; unfold headL zs at h
  have := congrArg (fun l => l.getD 0 0) h
  simp at this

/-- What the journal needs of the program. -/
structure KJ (P : Program) (F : Nat → Nat) : Prop where
  k : KDisk P F
  rd : ∀ (d : Dsk) (at_ : Int), Small d → FnOk P (F 37) [.many 2 (dskE d), .one (.int .i64 at_)] [.one (.im (.str (d.rd at_).1)), .one (.im (.int .i64 (d.rd at_).2))]
  usable : journal_usable_k P F
  valid : journal_valid_k P F
  home : journal_home_k P F
  halves : journal_halves_k P F
  top : journal_top_k P F
  head : journal_head_k P F
  headed : journal_headed_k P F
  plan : journal_Plan_k P F
  repair : journal_Repair_k P F
  run : journal_Run_k P F
  commit : journal_Commit_k P F
  recover : journal_Recover_k P F
  get : journal_Get_k P F

def plan (p : Int) (data : List UInt8) : List Op := halves 1 (data.take 16) (data.drop 16) ++ topL (headL p.toNat) ++ halves (home p) (data.take 16) (data.drop 16) ++ topL zs
def planOk (d : Dsk) (p : Int) (data : List UInt8) : Prop := usable d ∧ valid p ∧ data.length = 32
instance (d : Dsk) (p : Int) (data : List UInt8) : Decidable (planOk d p data) := by unfold planOk; infer_instance
def planL (d : Dsk) (p : Int) (data : List UInt8) : List Op := if planOk d p data then plan p data else []
def planE (d : Dsk) (p : Int) (data : List UInt8) : Int := if planOk d p data then 0 else 1
def getS (d : Dsk) (n : Nat) : List UInt8 := d.read (2 * n + 1) ++ d.read (2 * n + 2)
def getOk (d : Dsk) (p : Int) : Prop := usable d ∧ valid p
instance (d : Dsk) (p : Int) : Decidable (getOk d p) := by unfold getOk; infer_instance
def get (d : Dsk) (p : Int) : List UInt8 × Int := if getOk d p then (getS d p.toNat, 0) else ([], 1)
def repair (d : Dsk) : List Op :=
  if usable d then (if d.read 0 = zs then [] else (if hdN (d.read 0) ≠ 0 then halves (home (hdN (d.read 0))) (d.read 1) (d.read 2) else []) ++ topL zs) else []
def recover (d : Dsk) : Dsk := runL d (repair d)
def commitD (d : Dsk) (p : Int) (data : List UInt8) : Dsk := if planOk d p data then runL d (plan p data) else d

theorem appC_opE {l m : List Op} {f g : Nat → Nat → Cell} {len : Nat} (hl : len = l.length)
    (hf : ∀ i, i < l.length → ∀ j, j < 3 → CEq (f i j) (opE (l.getD i default) j)) (hg : ∀ i, i < m.length → ∀ j, j < 3 → CEq (g i j) (opE (m.getD i default) j)) :
    ∀ i, i < (l ++ m).length → ∀ j, j < 3 → CEq (appC f len g i j) (opE ((l ++ m).getD i default) j) := appC_lists hl hf hg

section
variable {P : Program} {F : Nat → Nat}

set_option maxHeartbeats 8000000 in
set_option maxRecDepth 100000 in
theorem headed_ok (K : KJ P F) (s : List UInt8) : FnOk P (F 125) [.one (.str s)] [.one (.im (.int .i64 (hdN s))), .one (.im (.bool (decide (hdN s ≠ 0))))] := by
  refine fnOk K.k.m K.headed ?_
  repeat' first
    | with_reducible refine NeedI.mk (fun h => h) ?_
    | with_reducible refine NeedI.mk (fun h => h.2) ?_
    | with_reducible refine NeedI.mk (fun h => h.1) ?_
    | with_reducible exact Done.mk
    | with_reducible refine Both.mk (fun _ => ?_) (fun _ => ?_)
    | with_reducible refine Both2.mk (fun _ => ?_) ?_
    | with_reducible refine Need.mk (by first | omega | with_reducible exact CEq.refl _) ?_
    | (fail_if_success with_reducible refine LoopVC.mk ?_
       fail_if_success with_reducible refine Need.mk ?_ ?_
       fail_if_success with_reducible refine CallVC.mk ?_
       fail_if_success with_reducible refine LoopEnd.mk ?_
       fail_if_success with_reducible refine Out.mk ?_
       fail_if_success with_reducible show False
       fail_if_success with_reducible refine NeedI.mk ?_ ?_
       conv => whnf)
  refine LoopVC.inv (fun i : Nat => i ≤ 16 ∧ ∀ k, k < i → s ≠ headL (k + 1)) (fun i => stL [(0, .c (.str s)), (4, .c (.int .i64 (i + 1)))] []) (fun i => 16 - i) 0 ⟨by omega, fun k hk => by omega⟩ (Le.of ⟨CEq.refl _, rfl, trivial⟩ trivial) ?_
  rintro Q hQ i ⟨hi, hn⟩
  repeat' first
    | with_reducible refine NeedI.mk (fun h => h) ?_
    | with_reducible refine NeedI.mk (fun h => h.2) ?_
    | with_reducible refine NeedI.mk (fun h => h.1) ?_
    | with_reducible exact Done.mk
    | with_reducible refine Both.mk (fun _ => ?_) (fun _ => ?_)
    | with_reducible refine Both2.mk (fun _ => ?_) ?_
    | with_reducible refine Need.mk (by first | omega | with_reducible exact CEq.refl _ | (simp only [decide_eq_true_eq, decide_eq_false_iff_not, Bool.or_eq_true, Bool.and_eq_true, Bool.or_eq_false_iff, Int.toNat_natCast, addN_eq, cond_false, cond_true, rng] at *; omega)) ?_
    | (fail_if_success with_reducible refine LoopVC.mk ?_
       fail_if_success with_reducible refine Need.mk ?_ ?_
       fail_if_success with_reducible refine CallVC.mk ?_
       fail_if_success with_reducible refine LoopEnd.mk ?_
       fail_if_success with_reducible refine Out.mk ?_
       fail_if_success with_reducible show False
       fail_if_success with_reducible refine NeedI.mk ?_ ?_
       conv => whnf)
  · rename_i h3
    simp only [decide_eq_true_eq] at h3
    refine CallVC.mk' (fun _ => head_ok K.k.m K.head (i + 1) (by omega)) (fun _ => .cons (.one (eI (by push_cast; rfl))) .nil) ?_
    repeat' first
      | with_reducible refine NeedI.mk (fun h => h) ?_
      | with_reducible refine NeedI.mk (fun h => h.2) ?_
      | with_reducible refine NeedI.mk (fun h => h.1) ?_
      | with_reducible exact Done.mk
      | with_reducible refine Both.mk (fun _ => ?_) (fun _ => ?_)
      | with_reducible refine Both2.mk (fun _ => ?_) ?_
      | with_reducible refine Need.mk (by first | omega | with_reducible exact CEq.refl _ | (simp only [decide_eq_true_eq, decide_eq_false_iff_not, Bool.or_eq_true, Bool.and_eq_true, Bool.or_eq_false_iff, Int.toNat_natCast, addN_eq, cond_false, cond_true, rng] at *; omega)) ?_
      | (fail_if_success with_reducible refine LoopVC.mk ?_
         fail_if_success with_reducible refine Need.mk ?_ ?_
         fail_if_success with_reducible refine CallVC.mk ?_
         fail_if_success with_reducible refine LoopEnd.mk ?_
         fail_if_success with_reducible refine Out.mk ?_
         fail_if_success with_reducible show False
         fail_if_success with_reducible refine NeedI.mk ?_ ?_
         conv => whnf)
    · rename_i h4
      have h4 : s = headL (i + 1) := of_decide_eq_true h4
      refine Out.mk (hQ _ _ ?_)
      have e : hdN s = i + 1 := by rw [h4]; exact hdN_head (by omega) (by omega)
      rw [e]
      repeat' first
        | with_reducible refine NeedI.mk (fun h => h) ?_
        | with_reducible refine NeedI.mk (fun h => h.2) ?_
        | with_reducible refine NeedI.mk (fun h => h.1) ?_
        | with_reducible exact Done.mk
        | with_reducible refine Both.mk (fun _ => ?_) (fun _ => ?_)
        | with_reducible refine Both2.mk (fun _ => ?_) ?_
        | with_reducible refine Need.mk (by with_reducible exact Nat.le_of_eq (Nat.zero_add _)) ?_
        | (fail_if_success with_reducible refine LoopVC.mk ?_
           fail_if_success with_reducible refine Need.mk ?_ ?_
           fail_if_success with_reducible refine CallVC.mk ?_
           fail_if_success with_reducible refine LoopEnd.mk ?_
           fail_if_success with_reducible refine Out.mk ?_
           fail_if_success with_reducible show False
           fail_if_success with_reducible refine NeedI.mk ?_ ?_
           conv => whnf)
      refine Need.mk (eI (by push_cast; rfl)) ?_
      repeat' first
        | with_reducible refine NeedI.mk (fun h => h) ?_
        | with_reducible refine NeedI.mk (fun h => h.2) ?_
        | with_reducible refine NeedI.mk (fun h => h.1) ?_
        | with_reducible exact Done.mk
        | with_reducible refine Both.mk (fun _ => ?_) (fun _ => ?_)
        | with_reducible refine Both2.mk (fun _ => ?_) ?_
        | with_reducible refine Need.mk (by with_reducible exact Nat.le_of_eq (Nat.zero_add _)) ?_
        | (fail_if_success with_reducible refine LoopVC.mk ?_
           fail_if_success with_reducible refine Need.mk ?_ ?_
           fail_if_success with_reducible refine CallVC.mk ?_
           fail_if_success with_reducible refine LoopEnd.mk ?_
           fail_if_success with_reducible refine Out.mk ?_
           fail_if_success with_reducible show False
           fail_if_success with_reducible refine NeedI.mk ?_ ?_
           conv => whnf)
      refine Need.mk (eB (by symm; rw [decide_eq_true_eq]; omega)) ?_
      repeat' first
        | with_reducible refine NeedI.mk (fun h => h) ?_
        | with_reducible refine NeedI.mk (fun h => h.2) ?_
        | with_reducible refine NeedI.mk (fun h => h.1) ?_
        | with_reducible exact Done.mk
        | with_reducible refine Both.mk (fun _ => ?_) (fun _ => ?_)
        | with_reducible refine Both2.mk (fun _ => ?_) ?_
        | with_reducible refine Need.mk (by with_reducible exact Nat.le_of_eq (Nat.zero_add _)) ?_
        | (fail_if_success with_reducible refine LoopVC.mk ?_
           fail_if_success with_reducible refine Need.mk ?_ ?_
           fail_if_success with_reducible refine CallVC.mk ?_
           fail_if_success with_reducible refine LoopEnd.mk ?_
           fail_if_success with_reducible refine Out.mk ?_
           fail_if_success with_reducible show False
           fail_if_success with_reducible refine NeedI.mk ?_ ?_
           conv => whnf)
    · rename_i h4
      have h4 : s ≠ headL (i + 1) := of_decide_eq_false h4
      refine LoopEnd.mk ⟨i + 1, ⟨by omega, fun k hk => ?_⟩, by omega, Le.of ⟨CEq.refl _, cI (by push_cast; rfl), trivial⟩ trivial⟩
      rcases Nat.lt_or_ge k i with h | h
      · exact hn k h
      · obtain rfl : k = i := by omega
        exact h4
  · rename_i h3
    simp only [decide_eq_false_iff_not] at h3
    obtain rfl : i = 16 := by omega
    refine Out.mk (hQ _ _ ?_)
    have e : hdN s = 0 := if_neg fun h => by
      obtain ⟨j, hj, hp⟩ := fstN_lt_iff.1 h
      exact hn j hj (of_decide_eq_true hp)
    rw [e]
    repeat' first
      | with_reducible refine NeedI.mk (fun h => h) ?_
      | with_reducible refine NeedI.mk (fun h => h.2) ?_
      | with_reducible refine NeedI.mk (fun h => h.1) ?_
      | with_reducible exact Done.mk
      | with_reducible refine Both.mk (fun _ => ?_) (fun _ => ?_)
      | with_reducible refine Both2.mk (fun _ => ?_) ?_
      | with_reducible refine Need.mk (by with_reducible exact Nat.le_of_eq (Nat.zero_add _)) ?_
      | (fail_if_success with_reducible refine LoopVC.mk ?_
         fail_if_success with_reducible refine Need.mk ?_ ?_
         fail_if_success with_reducible refine CallVC.mk ?_
         fail_if_success with_reducible refine LoopEnd.mk ?_
         fail_if_success with_reducible refine Out.mk ?_
         fail_if_success with_reducible show False
         fail_if_success with_reducible refine NeedI.mk ?_ ?_
         conv => whnf)
    refine Need.mk (CEq.refl _) ?_
    repeat' first
      | with_reducible refine NeedI.mk (fun h => h) ?_
      | with_reducible refine NeedI.mk (fun h => h.2) ?_
      | with_reducible refine NeedI.mk (fun h => h.1) ?_
      | with_reducible exact Done.mk
      | with_reducible refine Both.mk (fun _ => ?_) (fun _ => ?_)
      | with_reducible refine Both2.mk (fun _ => ?_) ?_
      | with_reducible refine Need.mk (by with_reducible exact Nat.le_of_eq (Nat.zero_add _)) ?_
      | (fail_if_success with_reducible refine LoopVC.mk ?_
         fail_if_success with_reducible refine Need.mk ?_ ?_
         fail_if_success with_reducible refine CallVC.mk ?_
         fail_if_success with_reducible refine LoopEnd.mk ?_
         fail_if_success with_reducible refine Out.mk ?_
         fail_if_success with_reducible show False
         fail_if_success with_reducible refine NeedI.mk ?_ ?_
         conv => whnf)
    refine Need.mk (CEq.refl _) ?_
    repeat' first
      | with_reducible refine NeedI.mk (fun h => h) ?_
      | with_reducible refine NeedI.mk (fun h => h.2) ?_
      | with_reducible refine NeedI.mk (fun h => h.1) ?_
      | with_reducible exact Done.mk
      | with_reducible refine Both.mk (fun _ => ?_) (fun _ => ?_)
      | with_reducible refine Both2.mk (fun _ => ?_) ?_
      | with_reducible refine Need.mk (by with_reducible exact Nat.le_of_eq (Nat.zero_add _)) ?_
      | (fail_if_success with_reducible refine LoopVC.mk ?_
         fail_if_success with_reducible refine Need.mk ?_ ?_
         fail_if_success with_reducible refine CallVC.mk ?_
         fail_if_success with_reducible refine LoopEnd.mk ?_
         fail_if_success with_reducible refine Out.mk ?_
         fail_if_success with_reducible show False
         fail_if_success with_reducible refine NeedI.mk ?_ ?_
         conv => whnf)
end
end Lk.S12
