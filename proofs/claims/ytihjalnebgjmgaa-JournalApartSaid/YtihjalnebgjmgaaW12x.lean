/-
  Chapter 12: JournalApart.
-/
import Derived.Test.YtihjalnebgjmgaaW12w
namespace Lk.S12
open Go Lk Lk.C Lk.S03

section
variable {P : Program} {F : Nat → Nat}

set_option maxHeartbeats 8000000 in
set_option maxRecDepth 100000 in
theorem journalApart_law (K : K12 P F) (hcalm : law12_calm_k P F) (hk : law12_JournalApart_k P F) (pages : List (List UInt8)) (p q : UInt8) (a b : List UInt8) (hp : pages.length ≤ 9223372036854775807) (ha : a.length ≤ 9223372036854775807) (hb : b.length ≤ 9223372036854775807) :
    FnOk P (F 114) [.one (slL 1 strE pages), .one (.int .u8 p.toNat), .one (.int .u8 q.toNat), .one (.str a), .one (.str b)] [.one (.im (.bool true))] := by
  refine fnOk K.j.k.m hk ?_
  repeat' first
    | with_reducible refine NeedI.mk (fun h => h) ?_
    | with_reducible refine NeedI.mk (fun h => h.2) ?_
    | with_reducible refine NeedI.mk (fun h => h.1) ?_
    | with_reducible exact Done.mk
    | with_reducible refine Both.mk (fun _ => ?_) (fun _ => ?_)
    | with_reducible refine Both2.mk (fun _ => ?_) ?_
    | with_reducible refine Need.mk (by first | omega | with_reducible exact CEq.refl _ | (dsimp only; omega) | (dsimp only [rng]; omega) | (simp only [decide_eq_true_eq, decide_eq_false_iff_not, Bool.or_eq_true, Bool.and_eq_true, Bool.or_eq_false_iff, Int.toNat_natCast, addN_eq, cond_false, cond_true, rng] at *; omega) | exact ⟨rfl, rfl⟩) ?_
    | ((with_reducible refine Need.mk ?_ ?_); exact CEq.refl _)
    | (fail_if_success with_reducible refine LoopVC.mk ?_
       fail_if_success with_reducible refine Need.mk ?_ ?_
       fail_if_success with_reducible refine CallVC.mk ?_
       fail_if_success with_reducible refine LoopEnd.mk ?_
       fail_if_success with_reducible refine Out.mk ?_
       fail_if_success with_reducible show False
       fail_if_success with_reducible refine NeedI.mk ?_ ?_
       conv => whnf)
  refine CallVC.mk' (fun _ => calm_ok K.j.k hcalm pages hp) (fun _ => .cons (.one (CEq.refl _)) .nil) ?_
  have C := calmD_calm (pages := pages)
  generalize calmD pages = was at *
  have hwn := C.n
  repeat' first
    | with_reducible refine NeedI.mk (fun h => h) ?_
    | with_reducible refine NeedI.mk (fun h => h.2) ?_
    | with_reducible refine NeedI.mk (fun h => h.1) ?_
    | with_reducible exact Done.mk
    | with_reducible refine Both.mk (fun _ => ?_) (fun _ => ?_)
    | with_reducible refine Both2.mk (fun _ => ?_) ?_
    | with_reducible refine Need.mk (by first | omega | with_reducible exact CEq.refl _ | (dsimp only; omega) | (dsimp only [rng]; omega) | (simp only [decide_eq_true_eq, decide_eq_false_iff_not, Bool.or_eq_true, Bool.and_eq_true, Bool.or_eq_false_iff, Int.toNat_natCast, addN_eq, cond_false, cond_true, rng] at *; omega) | exact ⟨rfl, rfl⟩) ?_
    | ((with_reducible refine Need.mk ?_ ?_); exact CEq.refl _)
    | (fail_if_success with_reducible refine LoopVC.mk ?_
       fail_if_success with_reducible refine Need.mk ?_ ?_
       fail_if_success with_reducible refine CallVC.mk ?_
       fail_if_success with_reducible refine LoopEnd.mk ?_
       fail_if_success with_reducible refine Out.mk ?_
       fail_if_success with_reducible show False
       fail_if_success with_reducible refine NeedI.mk ?_ ?_
       conv => whnf)
  · rename_i h
    rw [hwn] at h
    have h : a.length ≠ 32 ∨ b.length ≠ 32 := by simp at h; omega
    refine CallVC.mk' (fun _ => awake_ok K) (fun _ => .nil) ?_
    repeat' first
      | with_reducible refine NeedI.mk (fun h => h) ?_
      | with_reducible refine NeedI.mk (fun h => h.2) ?_
      | with_reducible refine NeedI.mk (fun h => h.1) ?_
      | with_reducible exact Done.mk
      | with_reducible refine Both.mk (fun _ => ?_) (fun _ => ?_)
      | with_reducible refine Both2.mk (fun _ => ?_) ?_
      | with_reducible refine Need.mk (by first | omega | with_reducible exact CEq.refl _ | (dsimp only; omega) | (dsimp only [rng]; omega) | (simp only [decide_eq_true_eq, decide_eq_false_iff_not, Bool.or_eq_true, Bool.and_eq_true, Bool.or_eq_false_iff, Int.toNat_natCast, addN_eq, cond_false, cond_true, rng] at *; omega) | exact ⟨rfl, rfl⟩) ?_
      | ((with_reducible refine Need.mk ?_ ?_); exact CEq.refl _)
      | (fail_if_success with_reducible refine LoopVC.mk ?_
         fail_if_success with_reducible refine Need.mk ?_ ?_
         fail_if_success with_reducible refine CallVC.mk ?_
         fail_if_success with_reducible refine LoopEnd.mk ?_
         fail_if_success with_reducible refine Out.mk ?_
         fail_if_success with_reducible show False
         fail_if_success with_reducible refine NeedI.mk ?_ ?_
         conv => whnf)
    refine Need.mk (eB (by simp; omega)) ?_
    repeat' first
      | with_reducible refine NeedI.mk (fun h => h) ?_
      | with_reducible refine NeedI.mk (fun h => h.2) ?_
      | with_reducible refine NeedI.mk (fun h => h.1) ?_
      | with_reducible exact Done.mk
      | with_reducible refine Both.mk (fun _ => ?_) (fun _ => ?_)
      | with_reducible refine Both2.mk (fun _ => ?_) ?_
      | with_reducible refine Need.mk (by first | omega | with_reducible exact CEq.refl _ | (dsimp only; omega) | (dsimp only [rng]; omega) | (simp only [decide_eq_true_eq, decide_eq_false_iff_not, Bool.or_eq_true, Bool.and_eq_true, Bool.or_eq_false_iff, Int.toNat_natCast, addN_eq, cond_false, cond_true, rng] at *; omega) | exact ⟨rfl, rfl⟩) ?_
      | ((with_reducible refine Need.mk ?_ ?_); exact CEq.refl _)
      | (fail_if_success with_reducible refine LoopVC.mk ?_
         fail_if_success with_reducible refine Need.mk ?_ ?_
         fail_if_success with_reducible refine CallVC.mk ?_
         fail_if_success with_reducible refine LoopEnd.mk ?_
         fail_if_success with_reducible refine Out.mk ?_
         fail_if_success with_reducible show False
         fail_if_success with_reducible refine NeedI.mk ?_ ?_
         conv => whnf)
  · rename_i h
    have h : a.length = 32 ∧ b.length = 32 := by simp at h; omega
    obtain ⟨la, lb⟩ := h
    obtain ⟨i, hi, hi1, hi2⟩ := page_of p
    obtain ⟨k, hk, hk1, hk2⟩ := page_of q
    rw [hi, hk]
    have c1 := plan_calm (data := a) C hi1 hi2 la
    have c2 := plan_calm (data := b) c1 hk1 hk2 lb
    have c3 := plan_calm (data := b) C hk1 hk2 lb
    have c4 := plan_calm (data := a) c3 hi1 hi2 la
    have g2 := fun z z1 z2 => getS_plan (data := b) (q := z) c1 hk1 hk2 lb z1 z2
    have g4 := fun z z1 z2 => getS_plan (data := a) (q := z) c3 hi1 hi2 la z1 z2
    have g1 := fun z z1 z2 => getS_plan (data := a) (q := z) C hi1 hi2 la z1 z2
    have g3 := fun z z1 z2 => getS_plan (data := b) (q := z) C hk1 hk2 lb z1 z2
    have vi : valid i := by unfold valid; omega
    have vk : valid k := by unfold valid; omega
    refine CallVC.mk' (fun _ => commit_ok K.j was i a C.small (by omega)) (fun _ => .cons ((.many fun j hj => by (rcases (show j = 0 ∨ j = 1 by omega) with rfl | rfl <;> exact CEq.refl _))) (.cons (.one (CEq.refl _)) (.cons (.one (CEq.refl _)) .nil))) ?_
    rw [show commitD was i a = runL was (plan i a) from if_pos ⟨C.usable, vi, la⟩, show planE was i a = 0 from if_pos ⟨C.usable, vi, la⟩]
    generalize runL was (plan i a) = x1 at *
    repeat' first
      | with_reducible refine NeedI.mk (fun h => h) ?_
      | with_reducible refine NeedI.mk (fun h => h.2) ?_
      | with_reducible refine NeedI.mk (fun h => h.1) ?_
      | with_reducible exact Done.mk
      | with_reducible refine Both.mk (fun _ => ?_) (fun _ => ?_)
      | with_reducible refine Both2.mk (fun _ => ?_) ?_
      | with_reducible refine Need.mk (by first | omega | with_reducible exact CEq.refl _ | (dsimp only; omega) | (dsimp only [rng]; omega) | (simp only [decide_eq_true_eq, decide_eq_false_iff_not, Bool.or_eq_true, Bool.and_eq_true, Bool.or_eq_false_iff, Int.toNat_natCast, addN_eq, cond_false, cond_true, rng] at *; omega) | exact ⟨rfl, rfl⟩) ?_
      | ((with_reducible refine Need.mk ?_ ?_); exact CEq.refl _)
      | (fail_if_success with_reducible refine LoopVC.mk ?_
         fail_if_success with_reducible refine Need.mk ?_ ?_
         fail_if_success with_reducible refine CallVC.mk ?_
         fail_if_success with_reducible refine LoopEnd.mk ?_
         fail_if_success with_reducible refine Out.mk ?_
         fail_if_success with_reducible show False
         fail_if_success with_reducible refine NeedI.mk ?_ ?_
         conv => whnf)
    refine CallVC.mk' (fun _ => commit_ok K.j x1 k b c1.small (by omega)) (fun _ => .cons ((.many fun j hj => by (rcases (show j = 0 ∨ j = 1 by omega) with rfl | rfl <;> exact CEq.refl _))) (.cons (.one (CEq.refl _)) (.cons (.one (CEq.refl _)) .nil))) ?_
    rw [show commitD x1 k b = runL x1 (plan k b) from if_pos ⟨c1.usable, vk, lb⟩, show planE x1 k b = 0 from if_pos ⟨c1.usable, vk, lb⟩]
    generalize runL x1 (plan k b) = x2 at *
    repeat' first
      | with_reducible refine NeedI.mk (fun h => h) ?_
      | with_reducible refine NeedI.mk (fun h => h.2) ?_
      | with_reducible refine NeedI.mk (fun h => h.1) ?_
      | with_reducible exact Done.mk
      | with_reducible refine Both.mk (fun _ => ?_) (fun _ => ?_)
      | with_reducible refine Both2.mk (fun _ => ?_) ?_
      | with_reducible refine Need.mk (by first | omega | with_reducible exact CEq.refl _ | (dsimp only; omega) | (dsimp only [rng]; omega) | (simp only [decide_eq_true_eq, decide_eq_false_iff_not, Bool.or_eq_true, Bool.and_eq_true, Bool.or_eq_false_iff, Int.toNat_natCast, addN_eq, cond_false, cond_true, rng] at *; omega) | exact ⟨rfl, rfl⟩) ?_
      | ((with_reducible refine Need.mk ?_ ?_); exact CEq.refl _)
      | (fail_if_success with_reducible refine LoopVC.mk ?_
         fail_if_success with_reducible refine Need.mk ?_ ?_
         fail_if_success with_reducible refine CallVC.mk ?_
         fail_if_success with_reducible refine LoopEnd.mk ?_
         fail_if_success with_reducible refine Out.mk ?_
         fail_if_success with_reducible show False
         fail_if_success with_reducible refine NeedI.mk ?_ ?_
         conv => whnf)
    refine CallVC.mk' (fun _ => commit_ok K.j was k b C.small (by omega)) (fun _ => .cons ((.many fun j hj => by (rcases (show j = 0 ∨ j = 1 by omega) with rfl | rfl <;> exact CEq.refl _))) (.cons (.one (CEq.refl _)) (.cons (.one (CEq.refl _)) .nil))) ?_
    rw [show commitD was k b = runL was (plan k b) from if_pos ⟨C.usable, vk, lb⟩, show planE was k b = 0 from if_pos ⟨C.usable, vk, lb⟩]
    generalize runL was (plan k b) = y1 at *
    repeat' first
      | with_reducible refine NeedI.mk (fun h => h) ?_
      | with_reducible refine NeedI.mk (fun h => h.2) ?_
      | with_reducible refine NeedI.mk (fun h => h.1) ?_
      | with_reducible exact Done.mk
      | with_reducible refine Both.mk (fun _ => ?_) (fun _ => ?_)
      | with_reducible refine Both2.mk (fun _ => ?_) ?_
      | with_reducible refine Need.mk (by first | omega | with_reducible exact CEq.refl _ | (dsimp only; omega) | (dsimp only [rng]; omega) | (simp only [decide_eq_true_eq, decide_eq_false_iff_not, Bool.or_eq_true, Bool.and_eq_true, Bool.or_eq_false_iff, Int.toNat_natCast, addN_eq, cond_false, cond_true, rng] at *; omega) | exact ⟨rfl, rfl⟩) ?_
      | ((with_reducible refine Need.mk ?_ ?_); exact CEq.refl _)
      | (fail_if_success with_reducible refine LoopVC.mk ?_
         fail_if_success with_reducible refine Need.mk ?_ ?_
         fail_if_success with_reducible refine CallVC.mk ?_
         fail_if_success with_reducible refine LoopEnd.mk ?_
         fail_if_success with_reducible refine Out.mk ?_
         fail_if_success with_reducible show False
         fail_if_success with_reducible refine NeedI.mk ?_ ?_
         conv => whnf)
    refine CallVC.mk' (fun _ => commit_ok K.j y1 i a c3.small (by omega)) (fun _ => .cons ((.many fun j hj => by (rcases (show j = 0 ∨ j = 1 by omega) with rfl | rfl <;> exact CEq.refl _))) (.cons (.one (CEq.refl _)) (.cons (.one (CEq.refl _)) .nil))) ?_
    rw [show commitD y1 i a = runL y1 (plan i a) from if_pos ⟨c3.usable, vi, la⟩, show planE y1 i a = 0 from if_pos ⟨c3.usable, vi, la⟩]
    generalize runL y1 (plan i a) = y2 at *
    repeat' first
      | with_reducible refine NeedI.mk (fun h => h) ?_
      | with_reducible refine NeedI.mk (fun h => h.2) ?_
      | with_reducible refine NeedI.mk (fun h => h.1) ?_
      | with_reducible exact Done.mk
      | with_reducible refine Both.mk (fun _ => ?_) (fun _ => ?_)
      | with_reducible refine Both2.mk (fun _ => ?_) ?_
      | with_reducible refine Need.mk (by first | omega | with_reducible exact CEq.refl _ | (dsimp only; omega) | (dsimp only [rng]; omega) | (simp only [decide_eq_true_eq, decide_eq_false_iff_not, Bool.or_eq_true, Bool.and_eq_true, Bool.or_eq_false_iff, Int.toNat_natCast, addN_eq, cond_false, cond_true, rng] at *; omega) | exact ⟨rfl, rfl⟩) ?_
      | ((with_reducible refine Need.mk ?_ ?_); exact CEq.refl _)
      | (fail_if_success with_reducible refine LoopVC.mk ?_
         fail_if_success with_reducible refine Need.mk ?_ ?_
         fail_if_success with_reducible refine CallVC.mk ?_
         fail_if_success with_reducible refine LoopEnd.mk ?_
         fail_if_success with_reducible refine Out.mk ?_
         fail_if_success with_reducible show False
         fail_if_success with_reducible refine NeedI.mk ?_ ?_
         conv => whnf)
    all_goals first
      | (rename_i h; exfalso; simp at h; done)
      | skip
    refine LoopVC.inv (fun z : Nat => z ≤ 16) (fun z => stL [(3, .c (.str a)), (4, .c (.str b)), (12, .c (.int .i64 i)), (13, .c (.int .i64 k)), (14, .va 14 0 0), (17, .va 17 0 0), (20, .c (.int .i64 (z + 1)))]
        [(14, vE [.c (slL 1 strE x2.secs), .c (slL 2 wrE x2.cache)]), (17, vE [.c (slL 1 strE y2.secs), .c (slL 2 wrE y2.cache)])]) (fun z => 16 - z) 0 (Nat.zero_le _) ?_ ?_
    · (refine Le.of ?_ ?_ <;> repeat' first | exact trivial | exact CEq.refl _ | exact rfl | exact cI (by push_cast; first | rfl | omega) | exact SubE.dat fun _ _ _ _ => CEq.refl _ | refine SubE.var2 ?_ ?_ | refine SubE.var1 ?_ | refine SubE.var3 ?_ ?_ ?_ | refine SubE.var4 ?_ ?_ ?_ ?_ | refine SubE.var5 ?_ ?_ ?_ ?_ ?_ | refine Exists.intro _ (And.intro rfl ?_) | refine And.intro ?_ ?_)
    rintro Q hQ z hz
    repeat' first
      | with_reducible refine NeedI.mk (fun h => h) ?_
      | with_reducible refine NeedI.mk (fun h => h.2) ?_
      | with_reducible refine NeedI.mk (fun h => h.1) ?_
      | with_reducible exact Done.mk
      | with_reducible refine Both.mk (fun _ => ?_) (fun _ => ?_)
      | with_reducible refine Both2.mk (fun _ => ?_) ?_
      | with_reducible refine Need.mk (by first | omega | with_reducible exact CEq.refl _ | (dsimp only; omega) | (dsimp only [rng]; omega) | (simp only [decide_eq_true_eq, decide_eq_false_iff_not, Bool.or_eq_true, Bool.and_eq_true, Bool.or_eq_false_iff, Int.toNat_natCast, addN_eq, cond_false, cond_true, rng] at *; omega) | exact ⟨rfl, rfl⟩) ?_
      | ((with_reducible refine Need.mk ?_ ?_); exact CEq.refl _)
      | (fail_if_success with_reducible refine LoopVC.mk ?_
         fail_if_success with_reducible refine Need.mk ?_ ?_
         fail_if_success with_reducible refine CallVC.mk ?_
         fail_if_success with_reducible refine LoopEnd.mk ?_
         fail_if_success with_reducible refine Out.mk ?_
         fail_if_success with_reducible show False
         fail_if_success with_reducible refine NeedI.mk ?_ ?_
         conv => whnf)
    · rename_i h4
      have h4 : ((z : Int) + 1) ≤ 16 := of_decide_eq_true h4
      refine CallVC.mk' (fun _ => get_ok K.j x2 ((z + 1 : Nat) : Int) c2.small) (fun _ => .cons ((.many fun j hj => by (rcases (show j = 0 ∨ j = 1 by omega) with rfl | rfl <;> exact CEq.refl _))) (.cons (.one (eI (by push_cast; rfl))) .nil)) ?_
      rw [get_calm c2 (by omega) (by omega), g2 _ (by omega) (by omega), g1 _ (by omega) (by omega)]
      repeat' first
        | with_reducible refine NeedI.mk (fun h => h) ?_
        | with_reducible refine NeedI.mk (fun h => h.2) ?_
        | with_reducible refine NeedI.mk (fun h => h.1) ?_
        | with_reducible exact Done.mk
        | with_reducible refine Both.mk (fun _ => ?_) (fun _ => ?_)
        | with_reducible refine Both2.mk (fun _ => ?_) ?_
        | with_reducible refine Need.mk (by first | omega | with_reducible exact CEq.refl _ | (dsimp only; omega) | (dsimp only [rng]; omega) | (simp only [decide_eq_true_eq, decide_eq_false_iff_not, Bool.or_eq_true, Bool.and_eq_true, Bool.or_eq_false_iff, Int.toNat_natCast, addN_eq, cond_false, cond_true, rng] at *; omega) | exact ⟨rfl, rfl⟩) ?_
        | ((with_reducible refine Need.mk ?_ ?_); exact CEq.refl _)
        | (fail_if_success with_reducible refine LoopVC.mk ?_
           fail_if_success with_reducible refine Need.mk ?_ ?_
           fail_if_success with_reducible refine CallVC.mk ?_
           fail_if_success with_reducible refine LoopEnd.mk ?_
           fail_if_success with_reducible refine Out.mk ?_
           fail_if_success with_reducible show False
           fail_if_success with_reducible refine NeedI.mk ?_ ?_
           conv => whnf)
      refine CallVC.mk' (fun _ => get_ok K.j y2 ((z + 1 : Nat) : Int) c4.small) (fun _ => .cons ((.many fun j hj => by (rcases (show j = 0 ∨ j = 1 by omega) with rfl | rfl <;> exact CEq.refl _))) (.cons (.one (eI (by push_cast; rfl))) .nil)) ?_
      rw [get_calm c4 (by omega) (by omega), g4 _ (by omega) (by omega), g3 _ (by omega) (by omega)]
      repeat' first
        | with_reducible refine NeedI.mk (fun h => h) ?_
        | with_reducible refine NeedI.mk (fun h => h.2) ?_
        | with_reducible refine NeedI.mk (fun h => h.1) ?_
        | with_reducible exact Done.mk
        | with_reducible refine Both.mk (fun _ => ?_) (fun _ => ?_)
        | with_reducible refine Both2.mk (fun _ => ?_) ?_
        | with_reducible refine Need.mk (by first | omega | with_reducible exact CEq.refl _ | (dsimp only; omega) | (dsimp only [rng]; omega) | (simp only [decide_eq_true_eq, decide_eq_false_iff_not, Bool.or_eq_true, Bool.and_eq_true, Bool.or_eq_false_iff, Int.toNat_natCast, addN_eq, cond_false, cond_true, rng] at *; omega) | exact ⟨rfl, rfl⟩) ?_
        | ((with_reducible refine Need.mk ?_ ?_); exact CEq.refl _)
        | (fail_if_success with_reducible refine LoopVC.mk ?_
           fail_if_success with_reducible refine Need.mk ?_ ?_
           fail_if_success with_reducible refine CallVC.mk ?_
           fail_if_success with_reducible refine LoopEnd.mk ?_
           fail_if_success with_reducible refine Out.mk ?_
           fail_if_success with_reducible show False
           fail_if_success with_reducible refine NeedI.mk ?_ ?_
           conv => whnf)
      · rename_i h5
        exfalso
        have ci : ((i : Int) = (k : Int)) ↔ i = k := Int.ofNat_inj
        have cz : ((z : Int) + 1 = (i : Int)) ↔ z + 1 = i := by omega
        simp only [Bool.or_eq_true, Bool.and_eq_true, Bool.not_eq_true', decide_eq_false_iff_not, decide_eq_true_eq, ci, cz] at h5
        by_cases e1 : i = k
        · subst e1
          by_cases e2 : z + 1 = i
          · rw [if_pos e2, if_pos e2] at h5; simp at h5
          · simp [e2] at h5
        · by_cases e2 : z + 1 = i
          · have e3 : z + 1 ≠ k := fun x => e1 (e2.symm.trans x)
            rw [if_pos e2, if_neg e3, if_pos e2] at h5; simp [e1] at h5
          · simp [e1, e2] at h5
      · skip
        refine LoopEnd.mk ⟨z + 1, by omega, by omega, ?_⟩
        (refine Le.of ?_ ?_ <;> repeat' first | exact trivial | exact CEq.refl _ | exact rfl | exact cI (by push_cast; first | rfl | omega) | exact SubE.dat fun _ _ _ _ => CEq.refl _ | refine SubE.var2 ?_ ?_ | refine SubE.var1 ?_ | refine SubE.var3 ?_ ?_ ?_ | refine SubE.var4 ?_ ?_ ?_ ?_ | refine SubE.var5 ?_ ?_ ?_ ?_ ?_ | refine Exists.intro _ (And.intro rfl ?_) | refine And.intro ?_ ?_)
    · skip
      refine Out.mk (hQ _ _ ?_)
      repeat' first
        | with_reducible refine NeedI.mk (fun h => h) ?_
        | with_reducible refine NeedI.mk (fun h => h.2) ?_
        | with_reducible refine NeedI.mk (fun h => h.1) ?_
        | with_reducible exact Done.mk
        | with_reducible refine Both.mk (fun _ => ?_) (fun _ => ?_)
        | with_reducible refine Both2.mk (fun _ => ?_) ?_
        | with_reducible refine Need.mk (by first | omega | with_reducible exact CEq.refl _ | (dsimp only; omega) | (dsimp only [rng]; omega) | (simp only [decide_eq_true_eq, decide_eq_false_iff_not, Bool.or_eq_true, Bool.and_eq_true, Bool.or_eq_false_iff, Int.toNat_natCast, addN_eq, cond_false, cond_true, rng] at *; omega) | exact ⟨rfl, rfl⟩) ?_
        | ((with_reducible refine Need.mk ?_ ?_); exact CEq.refl _)
        | (fail_if_success with_reducible refine LoopVC.mk ?_
           fail_if_success with_reducible refine Need.mk ?_ ?_
           fail_if_success with_reducible refine CallVC.mk ?_
           fail_if_success with_reducible refine LoopEnd.mk ?_
           fail_if_success with_reducible refine Out.mk ?_
           fail_if_success with_reducible show False
           fail_if_success with_reducible refine NeedI.mk ?_ ?_
           conv => whnf)
      refine CallVC.mk' (fun _ => awake_ok K) (fun _ => .nil) ?_
      repeat' first
        | with_reducible refine NeedI.mk (fun h => h) ?_
        | with_reducible refine NeedI.mk (fun h => h.2) ?_
        | with_reducible refine NeedI.mk (fun h => h.1) ?_
        | with_reducible exact Done.mk
        | with_reducible refine Both.mk (fun _ => ?_) (fun _ => ?_)
        | with_reducible refine Both2.mk (fun _ => ?_) ?_
        | with_reducible refine Need.mk (by first | omega | with_reducible exact CEq.refl _ | (dsimp only; omega) | (dsimp only [rng]; omega) | (simp only [decide_eq_true_eq, decide_eq_false_iff_not, Bool.or_eq_true, Bool.and_eq_true, Bool.or_eq_false_iff, Int.toNat_natCast, addN_eq, cond_false, cond_true, rng] at *; omega) | exact ⟨rfl, rfl⟩) ?_
        | ((with_reducible refine Need.mk ?_ ?_); exact CEq.refl _)
        | (fail_if_success with_reducible refine LoopVC.mk ?_
           fail_if_success with_reducible refine Need.mk ?_ ?_
           fail_if_success with_reducible refine CallVC.mk ?_
           fail_if_success with_reducible refine LoopEnd.mk ?_
           fail_if_success with_reducible refine Out.mk ?_
           fail_if_success with_reducible show False
           fail_if_success with_reducible refine NeedI.mk ?_ ?_
           conv => whnf)
end
end Lk.S12
