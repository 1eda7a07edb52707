/-
  Chapter 3: DiskOld.
-/
import Derived.Test.YtebbledmaegfpaaW03f
namespace Lk.S03
open Go Lk Lk.C

def wasB (d : Dsk) (at_ : Nat) (s : List UInt8) : Nat → Bool
  | 0 => decide (s = d.secs.getD at_ default)
  | k + 1 => wasB d at_ s k || (decide ((d.cache.getD k default).at_ = at_) && decide ((d.cache.getD k default).data = s))
theorem wasB_true {d : Dsk} {at_ : Nat} {s : List UInt8} {n : Nat} (h : s = d.secs.getD at_ default ∨ ∃ k, k < n ∧ (d.cache.getD k default).at_ = at_ ∧ (d.cache.getD k default).data = s) : wasB d at_ s n = true := by
  induction n with
  | zero =>
    rcases h with h | ⟨k, hk, _⟩
    · exact decide_eq_true h
    · omega
  | succ n ih =>
    show (wasB d at_ s n || _) = true
    rw [Bool.or_eq_true]
    rcases h with h | ⟨k, hk, h1, h2⟩
    · exact .inl (ih (.inl h))
    · by_cases e : k = n
      · subst e; right; rw [h1, h2]; simp
      · exact .inl (ih (.inr ⟨k, by omega, h1, h2⟩))
theorem crash_was {d : Dsk} {keep : List Int} {i : Nat} (h : right d) (hi : i < d.secs.length) : wasB d i ((d.crash keep).secs.getD i default) d.cache.length = true := by
  apply wasB_true
  unfold Dsk.crash
  rw [if_pos h]
  show (wrS d.secs (kpL d.cache keep d.cache.length)).getD i default = _ ∨ _
  rw [wrS_at hi (fun w hw => h.rng w (kpL_mem (Nat.le_refl _) w hw))]
  rcases rdL_mem (l := kpL d.cache keep d.cache.length) (at_ := i) (s := d.secs.getD i default) with e | ⟨w, hw, h1, h2⟩
  · exact .inl e
  · right
    obtain ⟨k, hk, rfl⟩ := List.mem_iff_getElem.1 (kpL_mem (Nat.le_refl _) w hw)
    exact ⟨k, hk, by rw [getD_eq hk]; exact h1, by rw [getD_eq hk, h2]⟩

section
variable {P : Program} {F : Nat → Nat}

set_option maxHeartbeats 8000000 in
set_option maxRecDepth 100000 in
theorem diskOld_law (L : KLaw P F) (R : KRef P F) (hk : law03_DiskOld_k P F) (d : Dsk) (keep : List Int) (W : EDsk.wf d) (hkl : keep.length ≤ 9223372036854775807) : FnOk P (F 34) [.many 2 (dskE d), .one (slL 1 intE keep)] [.one (.im (.bool true))] := by
  refine fnOk L.k.m hk ?_
  have K := L.k
  repeat' first
    | with_reducible refine NeedI.mk (fun h => h) ?_
    | with_reducible refine NeedI.mk (fun h => h.2) ?_
    | with_reducible refine NeedI.mk (fun h => h.1) ?_
    | with_reducible exact Done.mk
    | with_reducible refine Both.mk (fun _ => ?_) (fun _ => ?_)
    | with_reducible refine Both2.mk (fun _ => ?_) ?_
    | with_reducible refine Need.mk (by first | omega | with_reducible exact CEq.refl _) ?_
    | (fail_if_success with_reducible refine LoopVC.mk ?_
       fail_if_success with_reducible refine Need.mk ?_ ?_
       fail_if_success with_reducible refine CallVC.mk ?_
       fail_if_success with_reducible refine LoopEnd.mk ?_
       fail_if_success with_reducible refine Out.mk ?_
       fail_if_success with_reducible show False
       fail_if_success with_reducible refine NeedI.mk ?_ ?_
       conv => whnf)
  refine CallVC.mk' (fun _ => small_ok R d W) (fun _ => .cons ((.many fun j hj => by (rcases (show j = 0 ∨ j = 1 by omega) with rfl | rfl <;> exact CEq.refl _))) .nil) ?_
  repeat' first
    | with_reducible refine NeedI.mk (fun h => h) ?_
    | with_reducible refine NeedI.mk (fun h => h.2) ?_
    | with_reducible refine NeedI.mk (fun h => h.1) ?_
    | with_reducible exact Done.mk
    | with_reducible refine Both.mk (fun _ => ?_) (fun _ => ?_)
    | with_reducible refine Both2.mk (fun _ => ?_) ?_
    | with_reducible refine Need.mk (by first | omega | with_reducible exact CEq.refl _) ?_
    | (fail_if_success with_reducible refine LoopVC.mk ?_
       fail_if_success with_reducible refine Need.mk ?_ ?_
       fail_if_success with_reducible refine CallVC.mk ?_
       fail_if_success with_reducible refine LoopEnd.mk ?_
       fail_if_success with_reducible refine Out.mk ?_
       fail_if_success with_reducible show False
       fail_if_success with_reducible refine NeedI.mk ?_ ?_
       conv => whnf)
  refine CallVC.mk' (fun _ => rright_ok R d W) (fun _ => .cons ((.many fun j hj => by (rcases (show j = 0 ∨ j = 1 by omega) with rfl | rfl <;> exact CEq.refl _))) .nil) ?_
  repeat' first
    | with_reducible refine NeedI.mk (fun h => h) ?_
    | with_reducible refine NeedI.mk (fun h => h.2) ?_
    | with_reducible refine NeedI.mk (fun h => h.1) ?_
    | with_reducible exact Done.mk
    | with_reducible refine Both.mk (fun _ => ?_) (fun _ => ?_)
    | with_reducible refine Both2.mk (fun _ => ?_) ?_
    | with_reducible refine Need.mk (by first | omega | with_reducible exact CEq.refl _) ?_
    | (fail_if_success with_reducible refine LoopVC.mk ?_
       fail_if_success with_reducible refine Need.mk ?_ ?_
       fail_if_success with_reducible refine CallVC.mk ?_
       fail_if_success with_reducible refine LoopEnd.mk ?_
       fail_if_success with_reducible refine Out.mk ?_
       fail_if_success with_reducible show False
       fail_if_success with_reducible refine NeedI.mk ?_ ?_
       conv => whnf)
  · refine CallVC.mk' (fun _ => awake_ok L) (fun _ => .nil) ?_
    repeat' first
      | with_reducible refine NeedI.mk (fun h => h) ?_
      | with_reducible refine NeedI.mk (fun h => h.2) ?_
      | with_reducible refine NeedI.mk (fun h => h.1) ?_
      | with_reducible exact Done.mk
      | with_reducible refine Both.mk (fun _ => ?_) (fun _ => ?_)
      | with_reducible refine Both2.mk (fun _ => ?_) ?_
      | with_reducible refine Need.mk (by with_reducible exact CEq.refl _) ?_
      | (fail_if_success with_reducible refine LoopVC.mk ?_
         fail_if_success with_reducible refine Need.mk ?_ ?_
         fail_if_success with_reducible refine CallVC.mk ?_
         fail_if_success with_reducible refine LoopEnd.mk ?_
         fail_if_success with_reducible refine Out.mk ?_
         fail_if_success with_reducible show False
         fail_if_success with_reducible refine NeedI.mk ?_ ?_
         conv => whnf)
  · rename_i h
    simp only [Bool.or_eq_false_iff, Bool.not_eq_false', decide_eq_true_eq, decide_eq_false_iff_not] at h
    obtain ⟨⟨ht, hk2⟩, hr⟩ := h
    have hk2 : keep.length ≤ 220 := by omega
    have S := hr.small
    have hs := S.s
    have hc := S.c
    have e1 : (d.crash keep).cache = [] := by unfold Dsk.crash; rw [if_pos hr]
    have e2 : (d.crash keep).secs.length = d.secs.length := by unfold Dsk.crash; rw [if_pos hr]; exact wrS_len
    have e3 : ∀ i, i < d.secs.length → wasB d i ((d.crash keep).secs.getD i default) d.cache.length = true := fun i hi => crash_was hr hi
    refine CallVC.mk' (fun _ => crash_ok K d keep S (by omega)) (fun _ => .cons ((.many fun j hj => by (rcases (show j = 0 ∨ j = 1 by omega) with rfl | rfl <;> exact CEq.refl _))) (.cons (.one (CEq.refl _)) .nil)) ?_
    generalize d.crash keep = c at *
    repeat' first
      | with_reducible refine NeedI.mk (fun h => h) ?_
      | with_reducible refine NeedI.mk (fun h => h.2) ?_
      | with_reducible refine NeedI.mk (fun h => h.1) ?_
      | with_reducible exact Done.mk
      | with_reducible refine Both.mk (fun _ => ?_) (fun _ => ?_)
      | with_reducible refine Both2.mk (fun _ => ?_) ?_
      | with_reducible refine Need.mk (by first | omega | with_reducible exact CEq.refl _) ?_
      | (fail_if_success with_reducible refine LoopVC.mk ?_
         fail_if_success with_reducible refine Need.mk ?_ ?_
         fail_if_success with_reducible refine CallVC.mk ?_
         fail_if_success with_reducible refine LoopEnd.mk ?_
         fail_if_success with_reducible refine Out.mk ?_
         fail_if_success with_reducible show False
         fail_if_success with_reducible refine NeedI.mk ?_ ?_
         conv => whnf)
    · exfalso
      rename_i h
      rw [e1, e2] at h
      simp at h
    · refine LoopVC.inv (fun i : Nat => i ≤ d.secs.length) (fun i => stL [(2, .va 2 0 0), (42, .c (slL 1 strE c.secs)), (43, .c (.int .i64 d.secs.length)), (44, .c (.int .i64 i))]
          [(2, vE [.c (slL 1 strE d.secs), .c (slL 2 wrE d.cache)])])
        (fun i => d.secs.length - i) 0 (Nat.zero_le _) (Le.of ⟨⟨rfl, rfl, rfl⟩, CEq.refl _, cI (by rw [e2]), rfl, trivial⟩ ⟨⟨_, rfl, SubE.var2 (CEq.refl _) (CEq.refl _)⟩, trivial⟩) ?_
      rintro Q hQ i hi
      repeat' first
        | with_reducible refine NeedI.mk (fun h => h) ?_
        | with_reducible refine NeedI.mk (fun h => h.2) ?_
        | with_reducible refine NeedI.mk (fun h => h.1) ?_
        | with_reducible exact Done.mk
        | with_reducible refine Both.mk (fun _ => ?_) (fun _ => ?_)
        | with_reducible refine Both2.mk (fun _ => ?_) ?_
        | with_reducible refine Need.mk (by first | omega | with_reducible exact CEq.refl _ | (simp only [decide_eq_true_eq, decide_eq_false_iff_not, Bool.or_eq_true, Bool.and_eq_true, Bool.or_eq_false_iff, Int.toNat_natCast, addN_eq, cond_false, cond_true, rng] at *; omega)) ?_
        | (fail_if_success with_reducible refine LoopVC.mk ?_
           fail_if_success with_reducible refine Need.mk ?_ ?_
           fail_if_success with_reducible refine CallVC.mk ?_
           fail_if_success with_reducible refine LoopEnd.mk ?_
           fail_if_success with_reducible refine Out.mk ?_
           fail_if_success with_reducible show False
           fail_if_success with_reducible refine NeedI.mk ?_ ?_
           conv => whnf)
      · rename_i h3
        simp only [decide_eq_true_eq] at h3
        refine LoopVC.inv (fun k : Nat => k ≤ d.cache.length) (fun k => stL [(2, .va 2 0 0), (6, .c (.int .i64 i)), (7, .c (.str (c.secs.getD i default))), (8, .c (.bool (wasB d i (c.secs.getD i default) k))), (42, .c (slL 1 strE c.secs)), (43, .c (.int .i64 d.secs.length)), (44, .c (.int .i64 i)),
              (57, .c (slL 2 wrE d.cache)), (58, .c (.int .i64 d.cache.length)), (59, .c (.int .i64 k))] [(2, vE [.c (slL 1 strE d.secs), .c (slL 2 wrE d.cache)])])
          (fun k => d.cache.length - k) 0 (Nat.zero_le _) ?_ ?_
        · refine Le.of ⟨⟨rfl, rfl, rfl⟩, rfl, cS ?_, cB ?_, CEq.refl _, rfl, rfl, CEq.refl _, rfl, rfl, trivial⟩ ⟨⟨_, rfl, SubE.var2 (CEq.refl _) (CEq.refl _)⟩, trivial⟩
          · simp
          · simp [wasB]
        rintro Q2 hQ2 k hk3
        repeat' first
          | with_reducible refine NeedI.mk (fun h => h) ?_
          | with_reducible refine NeedI.mk (fun h => h.2) ?_
          | with_reducible refine NeedI.mk (fun h => h.1) ?_
          | with_reducible exact Done.mk
          | with_reducible refine Both.mk (fun _ => ?_) (fun _ => ?_)
          | with_reducible refine Both2.mk (fun _ => ?_) ?_
          | with_reducible refine Need.mk (by first | omega | with_reducible exact CEq.refl _ | (simp only [decide_eq_true_eq, decide_eq_false_iff_not, Bool.or_eq_true, Bool.and_eq_true, Bool.or_eq_false_iff, Int.toNat_natCast, addN_eq, cond_false, cond_true, rng] at *; omega)) ?_
          | (fail_if_success with_reducible refine LoopVC.mk ?_
             fail_if_success with_reducible refine Need.mk ?_ ?_
             fail_if_success with_reducible refine CallVC.mk ?_
             fail_if_success with_reducible refine LoopEnd.mk ?_
             fail_if_success with_reducible refine Out.mk ?_
             fail_if_success with_reducible show False
             fail_if_success with_reducible refine NeedI.mk ?_ ?_
             conv => whnf)
        · rename_i h4
          simp only [decide_eq_true_eq] at h4
          refine LoopEnd.mk ⟨k + 1, by omega, by omega, ?_⟩
          refine Le.of ⟨⟨rfl, rfl, rfl⟩, rfl, rfl, cB ?_, CEq.refl _, rfl, rfl, CEq.refl _, rfl, cI (by simp), trivial⟩ ⟨⟨_, rfl, SubE.var2 (CEq.refl _) (CEq.refl _)⟩, trivial⟩
          rfl
        · rename_i h4
          simp only [decide_eq_false_iff_not] at h4
          obtain rfl : k = d.cache.length := by omega
          refine Out.mk (hQ2 _ _ ?_)
          rw [e3 i (by omega)]
          repeat' first
            | with_reducible refine NeedI.mk (fun h => h) ?_
            | with_reducible refine NeedI.mk (fun h => h.2) ?_
            | with_reducible refine NeedI.mk (fun h => h.1) ?_
            | with_reducible exact Done.mk
            | with_reducible refine Both.mk (fun _ => ?_) (fun _ => ?_)
            | with_reducible refine Both2.mk (fun _ => ?_) ?_
            | with_reducible refine Need.mk (by first | omega | with_reducible exact CEq.refl _ | (simp only [decide_eq_true_eq, decide_eq_false_iff_not, Bool.or_eq_true, Bool.and_eq_true, Bool.or_eq_false_iff, Int.toNat_natCast, addN_eq, cond_false, cond_true, rng] at *; omega)) ?_
            | (fail_if_success with_reducible refine LoopVC.mk ?_
               fail_if_success with_reducible refine Need.mk ?_ ?_
               fail_if_success with_reducible refine CallVC.mk ?_
               fail_if_success with_reducible refine LoopEnd.mk ?_
               fail_if_success with_reducible refine Out.mk ?_
               fail_if_success with_reducible show False
               fail_if_success with_reducible refine NeedI.mk ?_ ?_
               conv => whnf)
          · rename_i h5; exact absurd h5 (by decide)
          refine LoopEnd.mk ⟨i + 1, by omega, by omega, ?_⟩
          refine Le.of ⟨⟨rfl, rfl, rfl⟩, CEq.refl _, rfl, cI (by simp), trivial⟩ ⟨⟨_, rfl, SubE.var2 (CEq.refl _) (CEq.refl _)⟩, trivial⟩
      · rename_i h3
        refine Out.mk (hQ _ _ ?_)
        repeat' first
          | with_reducible refine NeedI.mk (fun h => h) ?_
          | with_reducible refine NeedI.mk (fun h => h.2) ?_
          | with_reducible refine NeedI.mk (fun h => h.1) ?_
          | with_reducible exact Done.mk
          | with_reducible refine Both.mk (fun _ => ?_) (fun _ => ?_)
          | with_reducible refine Both2.mk (fun _ => ?_) ?_
          | with_reducible refine Need.mk (by with_reducible exact Nat.le_of_eq (Nat.zero_add _)) ?_
          | (fail_if_success with_reducible refine LoopVC.mk ?_
             fail_if_success with_reducible refine Need.mk ?_ ?_
             fail_if_success with_reducible refine CallVC.mk ?_
             fail_if_success with_reducible refine LoopEnd.mk ?_
             fail_if_success with_reducible refine Out.mk ?_
             fail_if_success with_reducible show False
             fail_if_success with_reducible refine NeedI.mk ?_ ?_
             conv => whnf)
        refine CallVC.mk' (fun _ => awake_ok L) (fun _ => .nil) ?_
        repeat' first
          | with_reducible refine NeedI.mk (fun h => h) ?_
          | with_reducible refine NeedI.mk (fun h => h.2) ?_
          | with_reducible refine NeedI.mk (fun h => h.1) ?_
          | with_reducible exact Done.mk
          | with_reducible refine Both.mk (fun _ => ?_) (fun _ => ?_)
          | with_reducible refine Both2.mk (fun _ => ?_) ?_
          | with_reducible refine Need.mk (by with_reducible exact CEq.refl _) ?_
          | (fail_if_success with_reducible refine LoopVC.mk ?_
             fail_if_success with_reducible refine Need.mk ?_ ?_
             fail_if_success with_reducible refine CallVC.mk ?_
             fail_if_success with_reducible refine LoopEnd.mk ?_
             fail_if_success with_reducible refine Out.mk ?_
             fail_if_success with_reducible show False
             fail_if_success with_reducible refine NeedI.mk ?_ ?_
             conv => whnf)
end
end Lk.S03
