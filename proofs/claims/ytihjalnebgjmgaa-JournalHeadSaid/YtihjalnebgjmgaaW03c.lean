/-
  Chapter 3: Crash and Sync.
-/
import Derived.Test.YtihjalnebgjmgaaW03b
import Derived.Test.YtihjalnebgjmgaaLkC
namespace Lk.S03
open Go Lk Lk.C

def kpL (c : List Wr) (keep : List Int) : Nat → List Wr
  | 0 => []
  | i + 1 => if (i : Int) ∈ keep then kpL c keep i ++ [c.getD i default] else kpL c keep i
theorem kpL_le (c : List Wr) (keep : List Int) (i : Nat) : (kpL c keep i).length ≤ i := by
  induction i with
  | zero => exact Nat.le_refl _
  | succ i ih =>
    show (if _ then _ else _ : List Wr).length ≤ _
    split
    · rw [List.length_append]; show _ + 1 ≤ _; omega
    · omega
theorem kpL_mem {c : List Wr} {keep : List Int} {i : Nat} (hi : i ≤ c.length) : ∀ w ∈ kpL c keep i, w ∈ c := by
  induction i with
  | zero => intro w hw; cases hw
  | succ i ih =>
    intro w hw
    have hw : w ∈ (if (i : Int) ∈ keep then kpL c keep i ++ [c.getD i default] else kpL c keep i) := hw
    split at hw
    · rcases List.mem_append.1 hw with h | h
      · exact ih (by omega) w h
      · rw [List.mem_singleton] at h; subst h; exact getD_mem (by omega)
    · exact ih (by omega) w hw
def Dsk.crash (d : Dsk) (keep : List Int) : Dsk := if right d then ⟨wrS d.secs (kpL d.cache keep d.cache.length), []⟩ else d
def Dsk.sync (d : Dsk) : Dsk := if right d then ⟨wrS d.secs d.cache, []⟩ else d
def intE (k : Int) (_ : Nat) : Cell := .int .i64 k

section
variable {P : Program} {F : Nat → Nat}

structure KDisk (P : Program) (F : Nat → Nat) : Prop where
  m : P.follows .mixedOrders = true
  new : disk_New_k P F
  right : disk_Right_k P F
  fits : disk_fits_k P F
  put : disk_Put_k P F
  sync : disk_Sync_k P F
  crash : disk_Crash_k P F
  written : disk_written_k P F
  cloneW : sl_Clone_api_Write_k P F
  cloneS : sl_Clone_string_k P F
  rep : FnOk P (F 49) [.one (.str [0]), .one (.int .i64 16)] [.one (.im (.str (List.replicate 16 0)))]

/-- A disk of small lists. -/
structure Small (d : Dsk) : Prop where
  s : d.secs.length ≤ 1000000
  c : d.cache.length ≤ 1000000
  ls : ∀ s ∈ d.secs, s.length ≤ 1000000
  lc : ∀ w ∈ d.cache, w.data.length ≤ 1000000

set_option maxHeartbeats 8000000 in
set_option maxRecDepth 100000 in
theorem sync_ok (K : KDisk P F) (d : Dsk) (S : Small d) : FnOk P (F 41) [.many 2 (dskE d)] [.many 2 (fun j => .im (dskE d.sync j))] := by
  refine fnOk K.m K.sync ?_
  repeat' first
    | with_reducible refine NeedI.mk (fun h => h) ?_
    | with_reducible refine NeedI.mk (fun h => h.2) ?_
    | with_reducible refine NeedI.mk (fun h => h.1) ?_
    | with_reducible exact Done.mk
    | with_reducible refine Both.mk (fun _ => ?_) (fun _ => ?_)
    | with_reducible refine Both2.mk (fun _ => ?_) ?_
    | with_reducible refine Need.mk (by with_reducible exact Nat.le_of_eq (Nat.zero_add _)) ?_
    | (fail_if_success with_reducible refine LoopVC.mk ?_
       fail_if_success with_reducible refine Need.mk ?_ ?_
       fail_if_success with_reducible refine CallVC.mk ?_
       fail_if_success with_reducible refine LoopEnd.mk ?_
       fail_if_success with_reducible refine Out.mk ?_
       fail_if_success with_reducible show False
       fail_if_success with_reducible refine NeedI.mk ?_ ?_
       conv => whnf)
  refine CallVC.mk' (fun _ => right_ok K.m K.right K.fits d S.s S.c S.ls S.lc) (fun _ => .cons ((.many fun j hj => by (rcases (show j = 0 ∨ j = 1 by omega) with rfl | rfl <;> exact CEq.refl _))) .nil) ?_
  repeat' first
    | with_reducible refine NeedI.mk (fun h => h) ?_
    | with_reducible refine NeedI.mk (fun h => h.2) ?_
    | with_reducible refine NeedI.mk (fun h => h.1) ?_
    | with_reducible exact Done.mk
    | with_reducible refine Both.mk (fun _ => ?_) (fun _ => ?_)
    | with_reducible refine Both2.mk (fun _ => ?_) ?_
    | with_reducible refine Need.mk (by with_reducible exact Nat.le_of_eq (Nat.zero_add _)) ?_
    | (fail_if_success with_reducible refine LoopVC.mk ?_
       fail_if_success with_reducible refine Need.mk ?_ ?_
       fail_if_success with_reducible refine CallVC.mk ?_
       fail_if_success with_reducible refine LoopEnd.mk ?_
       fail_if_success with_reducible refine Out.mk ?_
       fail_if_success with_reducible show False
       fail_if_success with_reducible refine NeedI.mk ?_ ?_
       conv => whnf)
  · rename_i h
    simp only [Bool.not_eq_true', decide_eq_false_iff_not] at h
    rw [show d.sync = d by unfold Dsk.sync; exact if_neg h]
    refine Need.mk (CEq.refl _) ?_
    repeat' first
      | with_reducible refine NeedI.mk (fun h => h) ?_
      | with_reducible refine NeedI.mk (fun h => h.2) ?_
      | with_reducible refine NeedI.mk (fun h => h.1) ?_
      | with_reducible exact Done.mk
      | with_reducible refine Both.mk (fun _ => ?_) (fun _ => ?_)
      | with_reducible refine Both2.mk (fun _ => ?_) ?_
      | with_reducible refine Need.mk (by with_reducible exact Nat.le_of_eq (Nat.zero_add _)) ?_
      | (fail_if_success with_reducible refine LoopVC.mk ?_
         fail_if_success with_reducible refine Need.mk ?_ ?_
         fail_if_success with_reducible refine CallVC.mk ?_
         fail_if_success with_reducible refine LoopEnd.mk ?_
         fail_if_success with_reducible refine Out.mk ?_
         fail_if_success with_reducible show False
         fail_if_success with_reducible refine NeedI.mk ?_ ?_
         conv => whnf)
    refine Need.mk (CEq.refl _) ?_
    repeat' first
      | with_reducible refine NeedI.mk (fun h => h) ?_
      | with_reducible refine NeedI.mk (fun h => h.2) ?_
      | with_reducible refine NeedI.mk (fun h => h.1) ?_
      | with_reducible exact Done.mk
      | with_reducible refine Both.mk (fun _ => ?_) (fun _ => ?_)
      | with_reducible refine Both2.mk (fun _ => ?_) ?_
      | with_reducible refine Need.mk (by with_reducible exact Nat.le_of_eq (Nat.zero_add _)) ?_
      | (fail_if_success with_reducible refine LoopVC.mk ?_
         fail_if_success with_reducible refine Need.mk ?_ ?_
         fail_if_success with_reducible refine CallVC.mk ?_
         fail_if_success with_reducible refine LoopEnd.mk ?_
         fail_if_success with_reducible refine Out.mk ?_
         fail_if_success with_reducible show False
         fail_if_success with_reducible refine NeedI.mk ?_ ?_
         conv => whnf)
  · rename_i h
    simp only [Bool.not_eq_false', decide_eq_true_eq] at h
    rw [show d.sync = ⟨wrS d.secs d.cache, []⟩ by unfold Dsk.sync; exact if_pos h]
    refine CallVC.mk' (fun _ => written_ok K.m K.written K.cloneS d d.cache S.s S.c (fun w hw => ⟨(h.2.2.2.2 w hw).1, (h.2.2.2.2 w hw).2.1⟩)) (fun _ => .cons ((.many fun j hj => by (rcases (show j = 0 ∨ j = 1 by omega) with rfl | rfl <;> exact CEq.refl _))) (.cons (.one (CEq.refl _)) .nil)) ?_
    repeat' first
      | with_reducible refine NeedI.mk (fun h => h) ?_
      | with_reducible refine NeedI.mk (fun h => h.2) ?_
      | with_reducible refine NeedI.mk (fun h => h.1) ?_
      | with_reducible exact Done.mk
      | with_reducible refine Both.mk (fun _ => ?_) (fun _ => ?_)
      | with_reducible refine Both2.mk (fun _ => ?_) ?_
      | with_reducible refine Need.mk (by with_reducible exact Nat.le_of_eq (Nat.zero_add _)) ?_
      | (fail_if_success with_reducible refine LoopVC.mk ?_
         fail_if_success with_reducible refine Need.mk ?_ ?_
         fail_if_success with_reducible refine CallVC.mk ?_
         fail_if_success with_reducible refine LoopEnd.mk ?_
         fail_if_success with_reducible refine Out.mk ?_
         fail_if_success with_reducible show False
         fail_if_success with_reducible refine NeedI.mk ?_ ?_
         conv => whnf)
    refine Need.mk (CEq.refl _) ?_
    repeat' first
      | with_reducible refine NeedI.mk (fun h => h) ?_
      | with_reducible refine NeedI.mk (fun h => h.2) ?_
      | with_reducible refine NeedI.mk (fun h => h.1) ?_
      | with_reducible exact Done.mk
      | with_reducible refine Both.mk (fun _ => ?_) (fun _ => ?_)
      | with_reducible refine Both2.mk (fun _ => ?_) ?_
      | with_reducible refine Need.mk (by with_reducible exact Nat.le_of_eq (Nat.zero_add _)) ?_
      | (fail_if_success with_reducible refine LoopVC.mk ?_
         fail_if_success with_reducible refine Need.mk ?_ ?_
         fail_if_success with_reducible refine CallVC.mk ?_
         fail_if_success with_reducible refine LoopEnd.mk ?_
         fail_if_success with_reducible refine Out.mk ?_
         fail_if_success with_reducible show False
         fail_if_success with_reducible refine NeedI.mk ?_ ?_
         conv => whnf)
    refine Need.mk (CEq.refl _) ?_
    repeat' first
      | with_reducible refine NeedI.mk (fun h => h) ?_
      | with_reducible refine NeedI.mk (fun h => h.2) ?_
      | with_reducible refine NeedI.mk (fun h => h.1) ?_
      | with_reducible exact Done.mk
      | with_reducible refine Both.mk (fun _ => ?_) (fun _ => ?_)
      | with_reducible refine Both2.mk (fun _ => ?_) ?_
      | with_reducible refine Need.mk (by with_reducible exact Nat.le_of_eq (Nat.zero_add _)) ?_
      | (fail_if_success with_reducible refine LoopVC.mk ?_
         fail_if_success with_reducible refine Need.mk ?_ ?_
         fail_if_success with_reducible refine CallVC.mk ?_
         fail_if_success with_reducible refine LoopEnd.mk ?_
         fail_if_success with_reducible refine Out.mk ?_
         fail_if_success with_reducible show False
         fail_if_success with_reducible refine NeedI.mk ?_ ?_
         conv => whnf)

set_option maxHeartbeats 8000000 in
set_option maxRecDepth 100000 in
theorem crash_ok (K : KDisk P F) (d : Dsk) (keep : List Int) (S : Small d) (hk : keep.length ≤ 1000000) : FnOk P (F 33) [.many 2 (dskE d), .one (slL 1 intE keep)] [.many 2 (fun j => .im (dskE (d.crash keep) j))] := by
  refine fnOk K.m K.crash ?_
  repeat' first
    | with_reducible refine NeedI.mk (fun h => h) ?_
    | with_reducible refine NeedI.mk (fun h => h.2) ?_
    | with_reducible refine NeedI.mk (fun h => h.1) ?_
    | with_reducible exact Done.mk
    | with_reducible refine Both.mk (fun _ => ?_) (fun _ => ?_)
    | with_reducible refine Both2.mk (fun _ => ?_) ?_
    | with_reducible refine Need.mk (by with_reducible exact Nat.le_of_eq (Nat.zero_add _)) ?_
    | (fail_if_success with_reducible refine LoopVC.mk ?_
       fail_if_success with_reducible refine Need.mk ?_ ?_
       fail_if_success with_reducible refine CallVC.mk ?_
       fail_if_success with_reducible refine LoopEnd.mk ?_
       fail_if_success with_reducible refine Out.mk ?_
       fail_if_success with_reducible show False
       fail_if_success with_reducible refine NeedI.mk ?_ ?_
       conv => whnf)
  refine CallVC.mk' (fun _ => right_ok K.m K.right K.fits d S.s S.c S.ls S.lc) (fun _ => .cons ((.many fun j hj => by (rcases (show j = 0 ∨ j = 1 by omega) with rfl | rfl <;> exact CEq.refl _))) .nil) ?_
  repeat' first
    | with_reducible refine NeedI.mk (fun h => h) ?_
    | with_reducible refine NeedI.mk (fun h => h.2) ?_
    | with_reducible refine NeedI.mk (fun h => h.1) ?_
    | with_reducible exact Done.mk
    | with_reducible refine Both.mk (fun _ => ?_) (fun _ => ?_)
    | with_reducible refine Both2.mk (fun _ => ?_) ?_
    | with_reducible refine Need.mk (by with_reducible exact Nat.le_of_eq (Nat.zero_add _)) ?_
    | (fail_if_success with_reducible refine LoopVC.mk ?_
       fail_if_success with_reducible refine Need.mk ?_ ?_
       fail_if_success with_reducible refine CallVC.mk ?_
       fail_if_success with_reducible refine LoopEnd.mk ?_
       fail_if_success with_reducible refine Out.mk ?_
       fail_if_success with_reducible show False
       fail_if_success with_reducible refine NeedI.mk ?_ ?_
       conv => whnf)
  · rename_i h
    simp only [Bool.not_eq_true', decide_eq_false_iff_not] at h
    rw [show d.crash keep = d by unfold Dsk.crash; exact if_neg h]
    refine Need.mk (CEq.refl _) ?_
    repeat' first
      | with_reducible refine NeedI.mk (fun h => h) ?_
      | with_reducible refine NeedI.mk (fun h => h.2) ?_
      | with_reducible refine NeedI.mk (fun h => h.1) ?_
      | with_reducible exact Done.mk
      | with_reducible refine Both.mk (fun _ => ?_) (fun _ => ?_)
      | with_reducible refine Both2.mk (fun _ => ?_) ?_
      | with_reducible refine Need.mk (by with_reducible exact Nat.le_of_eq (Nat.zero_add _)) ?_
      | (fail_if_success with_reducible refine LoopVC.mk ?_
         fail_if_success with_reducible refine Need.mk ?_ ?_
         fail_if_success with_reducible refine CallVC.mk ?_
         fail_if_success with_reducible refine LoopEnd.mk ?_
         fail_if_success with_reducible refine Out.mk ?_
         fail_if_success with_reducible show False
         fail_if_success with_reducible refine NeedI.mk ?_ ?_
         conv => whnf)
    refine Need.mk (CEq.refl _) ?_
    repeat' first
      | with_reducible refine NeedI.mk (fun h => h) ?_
      | with_reducible refine NeedI.mk (fun h => h.2) ?_
      | with_reducible refine NeedI.mk (fun h => h.1) ?_
      | with_reducible exact Done.mk
      | with_reducible refine Both.mk (fun _ => ?_) (fun _ => ?_)
      | with_reducible refine Both2.mk (fun _ => ?_) ?_
      | with_reducible refine Need.mk (by with_reducible exact Nat.le_of_eq (Nat.zero_add _)) ?_
      | (fail_if_success with_reducible refine LoopVC.mk ?_
         fail_if_success with_reducible refine Need.mk ?_ ?_
         fail_if_success with_reducible refine CallVC.mk ?_
         fail_if_success with_reducible refine LoopEnd.mk ?_
         fail_if_success with_reducible refine Out.mk ?_
         fail_if_success with_reducible show False
         fail_if_success with_reducible refine NeedI.mk ?_ ?_
         conv => whnf)
  · rename_i h
    simp only [Bool.not_eq_false', decide_eq_true_eq] at h
    rw [show d.crash keep = ⟨wrS d.secs (kpL d.cache keep d.cache.length), []⟩ by unfold Dsk.crash; exact if_pos h]
    have hc := S.c
    have hs := S.s
    repeat' first
      | with_reducible refine NeedI.mk (fun h => h) ?_
      | with_reducible refine NeedI.mk (fun h => h.2) ?_
      | with_reducible refine NeedI.mk (fun h => h.1) ?_
      | with_reducible exact Done.mk
      | with_reducible refine Both.mk (fun _ => ?_) (fun _ => ?_)
      | with_reducible refine Both2.mk (fun _ => ?_) ?_
      | with_reducible refine Need.mk (by first | with_reducible exact CEq.refl _ | omega | (simp only [decide_eq_true_eq, decide_eq_false_iff_not, Bool.or_eq_true, Bool.and_eq_true, Bool.or_eq_false_iff, Int.toNat_natCast, addN_eq, cond_false, cond_true, rng] at *; omega)) ?_
      | (fail_if_success with_reducible refine LoopVC.mk ?_
         fail_if_success with_reducible refine Need.mk ?_ ?_
         fail_if_success with_reducible refine CallVC.mk ?_
         fail_if_success with_reducible refine LoopEnd.mk ?_
         fail_if_success with_reducible refine Out.mk ?_
         fail_if_success with_reducible show False
         fail_if_success with_reducible refine NeedI.mk ?_ ?_
         conv => whnf)
    refine LoopVC.inv (fun i : Nat => i ≤ keep.length) (fun i => stL [(2, .va 2 0 0), (4, .va 4 0 0), (5, .os 18 0 1 0 d.cache.length), (19, .c (slL 1 intE keep)), (20, .c (.int .i64 keep.length)), (21, .c (.int .i64 i))]
        [(2, vE [.c (slL 1 strE d.secs), .c (slL 2 wrE d.cache)]), (4, vE [.nil 1, .nil 2]), (18, ⟨1, d.cache.length, .dat fun r _ => .bool (decide ((r : Int) ∈ keep.take i)), false, true⟩)])
      (fun i => keep.length - i) 0 (Nat.zero_le _) ?_ ?_
    · refine Le.of ⟨⟨rfl, rfl, rfl⟩, ⟨rfl, rfl, rfl⟩, ⟨rfl, rfl, rfl, rfl, rfl⟩, CEq.refl _, rfl, rfl, trivial⟩
        ⟨⟨_, rfl, SubE.var2 (CEq.refl _) (CEq.refl _)⟩, ⟨_, rfl, SubE.var2 trivial trivial⟩, ⟨_, rfl, SubE.dat fun i hi j hj => ?_⟩, trivial⟩
      obtain rfl : j = 0 := by omega
      exact eB (by simp)
    rintro Q hQ i hi
    repeat' first
      | with_reducible refine NeedI.mk (fun h => h) ?_
      | with_reducible refine NeedI.mk (fun h => h.2) ?_
      | with_reducible refine NeedI.mk (fun h => h.1) ?_
      | with_reducible exact Done.mk
      | with_reducible refine Both.mk (fun _ => ?_) (fun _ => ?_)
      | with_reducible refine Both2.mk (fun _ => ?_) ?_
      | with_reducible refine Need.mk (by first | with_reducible exact CEq.refl _ | omega | (simp only [decide_eq_true_eq, decide_eq_false_iff_not, Bool.or_eq_true, Bool.and_eq_true, Bool.or_eq_false_iff, Int.toNat_natCast, addN_eq, cond_false, cond_true, rng] at *; omega)) ?_
      | (fail_if_success with_reducible refine LoopVC.mk ?_
         fail_if_success with_reducible refine Need.mk ?_ ?_
         fail_if_success with_reducible refine CallVC.mk ?_
         fail_if_success with_reducible refine LoopEnd.mk ?_
         fail_if_success with_reducible refine Out.mk ?_
         fail_if_success with_reducible show False
         fail_if_success with_reducible refine NeedI.mk ?_ ?_
         conv => whnf)
    · rename_i h3 h4
      simp only [decide_eq_true_eq, Bool.and_eq_true, Int.toNat_natCast] at h3 h4
      refine LoopEnd.mk ⟨i + 1, by omega, by omega, ?_⟩
      refine Le.of ⟨⟨rfl, rfl, rfl⟩, ⟨rfl, rfl, rfl⟩, ⟨rfl, rfl, rfl, rfl, rfl⟩, CEq.refl _, rfl, cI (by simp), trivial⟩
        ⟨⟨_, rfl, SubE.var2 (CEq.refl _) (CEq.refl _)⟩, ⟨_, rfl, SubE.var2 trivial trivial⟩, ⟨_, rfl, SubE.dat fun r hr j hj => ?_⟩, trivial⟩
      obtain rfl : j = 0 := by have hj : j < 1 := hj; omega
      rw [updC_at, take_snoc (by omega)]
      simp only [addN_eq, Nat.zero_add, Int.toNat_natCast]
      by_cases hri : r = (keep.getD i default).toNat
      · rw [if_pos ⟨hri, trivial⟩]
        exact eB (by symm; rw [decide_eq_true_eq, List.mem_append, List.mem_singleton]; right; omega)
      · rw [if_neg (fun h => hri h.1)]
        exact eB (by rw [decide_eq_decide, List.mem_append, List.mem_singleton]; exact ⟨.inl, fun h => h.resolve_right (by omega)⟩)
    · rename_i h3 h4
      simp only [decide_eq_true_eq, Bool.and_eq_false_iff, decide_eq_false_iff_not, Int.toNat_natCast] at h3 h4
      refine LoopEnd.mk ⟨i + 1, by omega, by omega, ?_⟩
      refine Le.of ⟨⟨rfl, rfl, rfl⟩, ⟨rfl, rfl, rfl⟩, ⟨rfl, rfl, rfl, rfl, rfl⟩, CEq.refl _, rfl, cI (by simp), trivial⟩
        ⟨⟨_, rfl, SubE.var2 (CEq.refl _) (CEq.refl _)⟩, ⟨_, rfl, SubE.var2 trivial trivial⟩, ⟨_, rfl, SubE.dat fun r hr j hj => ?_⟩, trivial⟩
      obtain rfl : j = 0 := by have hj : j < 1 := hj; omega
      have hr : r < d.cache.length := hr
      rw [take_snoc (by omega)]
      exact eB (by rw [decide_eq_decide, List.mem_append, List.mem_singleton]; exact ⟨.inl, fun h => h.resolve_right (by omega)⟩)
    · rename_i h3
      simp only [decide_eq_false_iff_not] at h3
      obtain rfl : i = keep.length := by omega
      refine Out.mk (hQ _ _ ?_)
      repeat' first
        | with_reducible refine NeedI.mk (fun h => h) ?_
        | with_reducible refine NeedI.mk (fun h => h.2) ?_
        | with_reducible refine NeedI.mk (fun h => h.1) ?_
        | with_reducible exact Done.mk
        | with_reducible refine Both.mk (fun _ => ?_) (fun _ => ?_)
        | with_reducible refine Both2.mk (fun _ => ?_) ?_
        | with_reducible refine Need.mk (by first | with_reducible exact CEq.refl _ | omega | (simp only [decide_eq_true_eq, decide_eq_false_iff_not, Bool.or_eq_true, Bool.and_eq_true, Bool.or_eq_false_iff, Int.toNat_natCast, addN_eq, cond_false, cond_true, rng] at *; omega)) ?_
        | (fail_if_success with_reducible refine LoopVC.mk ?_
           fail_if_success with_reducible refine Need.mk ?_ ?_
           fail_if_success with_reducible refine CallVC.mk ?_
           fail_if_success with_reducible refine LoopEnd.mk ?_
           fail_if_success with_reducible refine Out.mk ?_
           fail_if_success with_reducible show False
           fail_if_success with_reducible refine NeedI.mk ?_ ?_
           conv => whnf)
      refine LoopVC.inv (fun i : Nat => i ≤ d.cache.length) (fun i => stL [(2, .va 2 0 0), (4, .va 4 0 0), (5, .os 18 0 1 0 d.cache.length), (8, .os 52 0 2 0 (kpL d.cache keep i).length), (38, .c (slL 2 wrE d.cache)), (39, .c (.int .i64 d.cache.length)), (40, .c (.int .i64 i))]
          [(2, vE [.c (slL 1 strE d.secs), .c (slL 2 wrE d.cache)]), (4, vE [.nil 1, .nil 2]), (18, ⟨1, d.cache.length, .dat fun r _ => .bool (decide ((r : Int) ∈ keep)), false, true⟩),
           (52, ⟨2, (kpL d.cache keep i).length, .dat fun r j => wrE ((kpL d.cache keep i).getD r default) j, false, true⟩)])
        (fun i => d.cache.length - i) 0 (Nat.zero_le _) ?_ ?_
      · refine Le.ofN [52] ⟨.inl ⟨rfl, rfl, rfl⟩, .inl ⟨rfl, rfl, rfl⟩, .inl ⟨rfl, rfl, rfl, rfl, rfl⟩, .inr ⟨_, _, _, rfl, rfl, rfl⟩, .inl (CEq.refl _), .inl rfl, .inl rfl, trivial⟩
          ⟨.inr ⟨rfl, _, rfl, .of (SubE.var2 (CEq.refl _) (CEq.refl _))⟩, .inr ⟨rfl, _, rfl, .of (SubE.var2 trivial trivial)⟩, .inr ⟨rfl, _, rfl, .of (SubE.dat fun r hr j hj => ?_)⟩, .inl ⟨rfl, rfl⟩, trivial⟩
        exact eB (by rw [List.take_length])
      rintro Q2 hQ2 k hk2
      have hkp := kpL_le d.cache keep k
      repeat' first
        | with_reducible refine NeedI.mk (fun h => h) ?_
        | with_reducible refine NeedI.mk (fun h => h.2) ?_
        | with_reducible refine NeedI.mk (fun h => h.1) ?_
        | with_reducible exact Done.mk
        | with_reducible refine Both.mk (fun _ => ?_) (fun _ => ?_)
        | with_reducible refine Both2.mk (fun _ => ?_) ?_
        | with_reducible refine Need.mk (by first | with_reducible exact CEq.refl _ | omega | exact ⟨rfl, rfl⟩ | (simp only [decide_eq_true_eq, decide_eq_false_iff_not, Bool.or_eq_true, Bool.and_eq_true, Bool.or_eq_false_iff, Int.toNat_natCast, addN_eq, cond_false, cond_true, rng] at *; omega)) ?_
        | (fail_if_success with_reducible refine LoopVC.mk ?_
           fail_if_success with_reducible refine Need.mk ?_ ?_
           fail_if_success with_reducible refine CallVC.mk ?_
           fail_if_success with_reducible refine LoopEnd.mk ?_
           fail_if_success with_reducible refine Out.mk ?_
           fail_if_success with_reducible show False
           fail_if_success with_reducible refine NeedI.mk ?_ ?_
           conv => whnf)
      · rename_i h4 h5
        simp only [decide_eq_true_eq, Int.toNat_natCast, addN_eq, Nat.zero_add] at h4 h5
        have e : kpL d.cache keep (k + 1) = kpL d.cache keep k ++ [d.cache.getD k default] := if_pos h5
        refine LoopEnd.mk ⟨k + 1, by omega, by omega, ?_⟩
        simp only [e, List.length_append, List.length_singleton]
        refine Le.of ⟨⟨rfl, rfl, rfl⟩, ⟨rfl, rfl, rfl⟩, ⟨rfl, rfl, rfl, rfl, rfl⟩, ⟨rfl, rfl, rfl, rfl, rfl⟩, CEq.refl _, rfl, cI (by simp), trivial⟩
          ⟨⟨_, rfl, SubE.var2 (CEq.refl _) (CEq.refl _)⟩, ⟨_, rfl, SubE.var2 trivial trivial⟩, ⟨_, rfl, SubE.dat fun r hr j hj => CEq.refl _⟩, ⟨_, rfl, SubE.dat fun r hr j hj => ?_⟩, trivial⟩
        have hj : j < 2 := hj
        refine appC_list (size := 2) rfl (fun i _ j _ => CEq.refl _) (fun j hj => ?_) r (by rw [List.length_append]; exact hr) j hj
        rcases (show j = 0 ∨ j = 1 by omega) with rfl | rfl <;> exact CEq.refl _
      · rename_i h4 h5
        simp only [decide_eq_true_eq, decide_eq_false_iff_not, Int.toNat_natCast, addN_eq, Nat.zero_add] at h4 h5
        have e : kpL d.cache keep (k + 1) = kpL d.cache keep k := if_neg h5
        refine LoopEnd.mk ⟨k + 1, by omega, by omega, ?_⟩
        simp only [e]
        refine Le.of ⟨⟨rfl, rfl, rfl⟩, ⟨rfl, rfl, rfl⟩, ⟨rfl, rfl, rfl, rfl, rfl⟩, ⟨rfl, rfl, rfl, rfl, rfl⟩, CEq.refl _, rfl, cI (by simp), trivial⟩
          ⟨⟨_, rfl, SubE.var2 (CEq.refl _) (CEq.refl _)⟩, ⟨_, rfl, SubE.var2 trivial trivial⟩, ⟨_, rfl, SubE.dat fun r hr j hj => CEq.refl _⟩, ⟨_, rfl, SubE.dat fun r hr j hj => CEq.refl _⟩, trivial⟩
      · rename_i h4
        simp only [decide_eq_false_iff_not] at h4
        obtain rfl : k = d.cache.length := by omega
        refine Out.mk (hQ2 _ _ ?_)
        repeat' first
          | with_reducible refine NeedI.mk (fun h => h) ?_
          | with_reducible refine NeedI.mk (fun h => h.2) ?_
          | with_reducible refine NeedI.mk (fun h => h.1) ?_
          | with_reducible exact Done.mk
          | with_reducible refine Both.mk (fun _ => ?_) (fun _ => ?_)
          | with_reducible refine Both2.mk (fun _ => ?_) ?_
          | with_reducible refine Need.mk (by with_reducible exact Nat.le_of_eq (Nat.zero_add _)) ?_
          | (fail_if_success with_reducible refine LoopVC.mk ?_
             fail_if_success with_reducible refine Need.mk ?_ ?_
             fail_if_success with_reducible refine CallVC.mk ?_
             fail_if_success with_reducible refine LoopEnd.mk ?_
             fail_if_success with_reducible refine Out.mk ?_
             fail_if_success with_reducible show False
             fail_if_success with_reducible refine NeedI.mk ?_ ?_
             conv => whnf)
        have hfr := h.2.2.2.2
        refine CallVC.mk' (fun _ => written_ok K.m K.written K.cloneS d (kpL d.cache keep d.cache.length) S.s (by omega) (fun w hw => ⟨(hfr w (kpL_mem (Nat.le_refl _) w hw)).1, (hfr w (kpL_mem (Nat.le_refl _) w hw)).2.1⟩)) (fun _ => .cons ((.many fun j hj => by (rcases (show j = 0 ∨ j = 1 by omega) with rfl | rfl <;> exact CEq.refl _))) (.cons (.one ?_) .nil)) ?_
        · exact CEq.list rfl fun i _ j _ => by rw [addN_eq, Nat.zero_add]; exact CEq.refl _
        repeat' first
          | with_reducible refine NeedI.mk (fun h => h) ?_
          | with_reducible refine NeedI.mk (fun h => h.2) ?_
          | with_reducible refine NeedI.mk (fun h => h.1) ?_
          | with_reducible exact Done.mk
          | with_reducible refine Both.mk (fun _ => ?_) (fun _ => ?_)
          | with_reducible refine Both2.mk (fun _ => ?_) ?_
          | with_reducible refine Need.mk (by with_reducible exact Nat.le_of_eq (Nat.zero_add _)) ?_
          | (fail_if_success with_reducible refine LoopVC.mk ?_
             fail_if_success with_reducible refine Need.mk ?_ ?_
             fail_if_success with_reducible refine CallVC.mk ?_
             fail_if_success with_reducible refine LoopEnd.mk ?_
             fail_if_success with_reducible refine Out.mk ?_
             fail_if_success with_reducible show False
             fail_if_success with_reducible refine NeedI.mk ?_ ?_
             conv => whnf)
        refine Need.mk (CEq.refl _) ?_
        repeat' first
          | with_reducible refine NeedI.mk (fun h => h) ?_
          | with_reducible refine NeedI.mk (fun h => h.2) ?_
          | with_reducible refine NeedI.mk (fun h => h.1) ?_
          | with_reducible exact Done.mk
          | with_reducible refine Both.mk (fun _ => ?_) (fun _ => ?_)
          | with_reducible refine Both2.mk (fun _ => ?_) ?_
          | with_reducible refine Need.mk (by with_reducible exact Nat.le_of_eq (Nat.zero_add _)) ?_
          | (fail_if_success with_reducible refine LoopVC.mk ?_
             fail_if_success with_reducible refine Need.mk ?_ ?_
             fail_if_success with_reducible refine CallVC.mk ?_
             fail_if_success with_reducible refine LoopEnd.mk ?_
             fail_if_success with_reducible refine Out.mk ?_
             fail_if_success with_reducible show False
             fail_if_success with_reducible refine NeedI.mk ?_ ?_
             conv => whnf)
        refine Need.mk (CEq.refl _) ?_
        repeat' first
          | with_reducible refine NeedI.mk (fun h => h) ?_
          | with_reducible refine NeedI.mk (fun h => h.2) ?_
          | with_reducible refine NeedI.mk (fun h => h.1) ?_
          | with_reducible exact Done.mk
          | with_reducible refine Both.mk (fun _ => ?_) (fun _ => ?_)
          | with_reducible refine Both2.mk (fun _ => ?_) ?_
          | with_reducible refine Need.mk (by with_reducible exact Nat.le_of_eq (Nat.zero_add _)) ?_
          | (fail_if_success with_reducible refine LoopVC.mk ?_
             fail_if_success with_reducible refine Need.mk ?_ ?_
             fail_if_success with_reducible refine CallVC.mk ?_
             fail_if_success with_reducible refine LoopEnd.mk ?_
             fail_if_success with_reducible refine Out.mk ?_
             fail_if_success with_reducible show False
             fail_if_success with_reducible refine NeedI.mk ?_ ?_
             conv => whnf)
end
end Lk.S03
