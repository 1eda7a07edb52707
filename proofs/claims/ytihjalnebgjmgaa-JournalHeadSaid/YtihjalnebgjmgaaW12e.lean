/-
  Chapter 12: Plan, Get.
-/
import Derived.Test.YtihjalnebgjmgaaW12d
import Derived.Test.YtihjalnebgjmgaaW03h
namespace Lk.S12
open Go Lk Lk.C Lk.S03

theorem read_len {d : Dsk} {i : Nat} (h : right d) (hi : i < d.secs.length) : (d.read i).length = 16 := by
  unfold Dsk.read
  rcases rdL_mem (l := d.cache) (at_ := (i : Int)) (s := d.secs.getD i []) with h1 | ⟨w, hw, h1, h2⟩
  · rw [h1]; exact h.2.2.2.1 _ (by rw [List.getD_eq_getElem?_getD, List.getElem?_eq_getElem hi]; exact List.getElem_mem hi)
  · rw [h2]; exact (h.2.2.2.2 w hw).2.2

section
variable {P : Program} {F : Nat → Nat}

set_option maxHeartbeats 8000000 in
set_option maxRecDepth 100000 in
theorem plan_ok (K : KJ P F) (d : Dsk) (p : Int) (data : List UInt8) (S : Small d) (hl : data.length ≤ 1000000) : FnOk P (F 97) [.many 2 (dskE d), .one (.int .i64 p), .one (.str data)] [.one (.im (slL 3 opE (planL d p data))), .one (.im (.int .i64 (planE d p data)))] := by
  refine fnOk K.k.m K.plan ?_
  repeat' first
    | with_reducible refine NeedI.mk (fun h => h) ?_
    | with_reducible refine NeedI.mk (fun h => h.2) ?_
    | with_reducible refine NeedI.mk (fun h => h.1) ?_
    | with_reducible exact Done.mk
    | with_reducible refine Both.mk (fun _ => ?_) (fun _ => ?_)
    | with_reducible refine Both2.mk (fun _ => ?_) ?_
    | with_reducible refine Need.mk (by first | omega | with_reducible exact CEq.refl _ | (dsimp only; omega)) ?_
    | (fail_if_success with_reducible refine LoopVC.mk ?_
       fail_if_success with_reducible refine Need.mk ?_ ?_
       fail_if_success with_reducible refine CallVC.mk ?_
       fail_if_success with_reducible refine LoopEnd.mk ?_
       fail_if_success with_reducible refine Out.mk ?_
       fail_if_success with_reducible show False
       fail_if_success with_reducible refine NeedI.mk ?_ ?_
       conv => whnf)
  refine CallVC.mk' (fun _ => usable_ok K.k K.usable d S) (fun _ => .cons ((.many fun j hj => by (rcases (show j = 0 ∨ j = 1 by omega) with rfl | rfl <;> exact CEq.refl _))) .nil) ?_
  repeat' first
    | with_reducible refine NeedI.mk (fun h => h) ?_
    | with_reducible refine NeedI.mk (fun h => h.2) ?_
    | with_reducible refine NeedI.mk (fun h => h.1) ?_
    | with_reducible exact Done.mk
    | with_reducible refine Both.mk (fun _ => ?_) (fun _ => ?_)
    | with_reducible refine Both2.mk (fun _ => ?_) ?_
    | with_reducible refine Need.mk (by first | omega | with_reducible exact CEq.refl _ | (dsimp only; omega)) ?_
    | (fail_if_success with_reducible refine LoopVC.mk ?_
       fail_if_success with_reducible refine Need.mk ?_ ?_
       fail_if_success with_reducible refine CallVC.mk ?_
       fail_if_success with_reducible refine LoopEnd.mk ?_
       fail_if_success with_reducible refine Out.mk ?_
       fail_if_success with_reducible show False
       fail_if_success with_reducible refine NeedI.mk ?_ ?_
       conv => whnf)
  refine CallVC.mk' (fun _ => valid_ok K.k.m K.valid p) (fun _ => .cons (.one (CEq.refl _)) .nil) ?_
  repeat' first
    | with_reducible refine NeedI.mk (fun h => h) ?_
    | with_reducible refine NeedI.mk (fun h => h.2) ?_
    | with_reducible refine NeedI.mk (fun h => h.1) ?_
    | with_reducible exact Done.mk
    | with_reducible refine Both.mk (fun _ => ?_) (fun _ => ?_)
    | with_reducible refine Both2.mk (fun _ => ?_) ?_
    | with_reducible refine Need.mk (by first | omega | with_reducible exact CEq.refl _ | (dsimp only; omega)) ?_
    | (fail_if_success with_reducible refine LoopVC.mk ?_
       fail_if_success with_reducible refine Need.mk ?_ ?_
       fail_if_success with_reducible refine CallVC.mk ?_
       fail_if_success with_reducible refine LoopEnd.mk ?_
       fail_if_success with_reducible refine Out.mk ?_
       fail_if_success with_reducible show False
       fail_if_success with_reducible refine NeedI.mk ?_ ?_
       conv => whnf)
  · rename_i h
    have h1 : ¬ planOk d p data := by
      rintro ⟨a, b, c⟩; rw [decide_eq_true a, decide_eq_true b] at h; simp [c] at h
    have e1 : planL d p data = [] := if_neg h1
    have e2 : planE d p data = 1 := if_neg h1
    rw [e1, e2]
    repeat' first
      | with_reducible refine NeedI.mk (fun h => h) ?_
      | with_reducible refine NeedI.mk (fun h => h.2) ?_
      | with_reducible refine NeedI.mk (fun h => h.1) ?_
      | with_reducible exact Done.mk
      | with_reducible refine Both.mk (fun _ => ?_) (fun _ => ?_)
      | with_reducible refine Both2.mk (fun _ => ?_) ?_
      | with_reducible refine Need.mk (by with_reducible exact Nat.le_of_eq (Nat.zero_add _)) ?_
      | (fail_if_success with_reducible refine LoopVC.mk ?_
         fail_if_success with_reducible refine Need.mk ?_ ?_
         fail_if_success with_reducible refine CallVC.mk ?_
         fail_if_success with_reducible refine LoopEnd.mk ?_
         fail_if_success with_reducible refine Out.mk ?_
         fail_if_success with_reducible show False
         fail_if_success with_reducible refine NeedI.mk ?_ ?_
         conv => whnf)
    refine Need.mk ceq_nil ?_
    repeat' first
      | with_reducible refine NeedI.mk (fun h => h) ?_
      | with_reducible refine NeedI.mk (fun h => h.2) ?_
      | with_reducible refine NeedI.mk (fun h => h.1) ?_
      | with_reducible exact Done.mk
      | with_reducible refine Both.mk (fun _ => ?_) (fun _ => ?_)
      | with_reducible refine Both2.mk (fun _ => ?_) ?_
      | with_reducible refine Need.mk (by with_reducible exact Nat.le_of_eq (Nat.zero_add _)) ?_
      | (fail_if_success with_reducible refine LoopVC.mk ?_
         fail_if_success with_reducible refine Need.mk ?_ ?_
         fail_if_success with_reducible refine CallVC.mk ?_
         fail_if_success with_reducible refine LoopEnd.mk ?_
         fail_if_success with_reducible refine Out.mk ?_
         fail_if_success with_reducible show False
         fail_if_success with_reducible refine NeedI.mk ?_ ?_
         conv => whnf)
    refine Need.mk (CEq.refl _) ?_
    repeat' first
      | with_reducible refine NeedI.mk (fun h => h) ?_
      | with_reducible refine NeedI.mk (fun h => h.2) ?_
      | with_reducible refine NeedI.mk (fun h => h.1) ?_
      | with_reducible exact Done.mk
      | with_reducible refine Both.mk (fun _ => ?_) (fun _ => ?_)
      | with_reducible refine Both2.mk (fun _ => ?_) ?_
      | with_reducible refine Need.mk (by with_reducible exact Nat.le_of_eq (Nat.zero_add _)) ?_
      | (fail_if_success with_reducible refine LoopVC.mk ?_
         fail_if_success with_reducible refine Need.mk ?_ ?_
         fail_if_success with_reducible refine CallVC.mk ?_
         fail_if_success with_reducible refine LoopEnd.mk ?_
         fail_if_success with_reducible refine Out.mk ?_
         fail_if_success with_reducible show False
         fail_if_success with_reducible refine NeedI.mk ?_ ?_
         conv => whnf)
  · rename_i h
    simp only [Bool.or_eq_false_iff, Bool.not_eq_false', decide_eq_true_eq] at h
    obtain ⟨⟨hu, hv⟩, hd⟩ := h
    have hd : data.length = 32 := by omega
    have e1 : planL d p data = plan p data := if_pos ⟨hu, hv, hd⟩
    have e2 : planE d p data = 0 := if_pos ⟨hu, hv, hd⟩
    rw [e1, e2]
    obtain ⟨v1, v2⟩ := id hv
    obtain ⟨n, rfl⟩ : ∃ n : Nat, p = n := ⟨p.toNat, by omega⟩
    repeat' first
      | with_reducible refine NeedI.mk (fun h => h) ?_
      | with_reducible refine NeedI.mk (fun h => h.2) ?_
      | with_reducible refine NeedI.mk (fun h => h.1) ?_
      | with_reducible exact Done.mk
      | with_reducible refine Both.mk (fun _ => ?_) (fun _ => ?_)
      | with_reducible refine Both2.mk (fun _ => ?_) ?_
      | with_reducible refine Need.mk (by first | omega | with_reducible exact CEq.refl _ | (dsimp only; omega)) ?_
      | (fail_if_success with_reducible refine LoopVC.mk ?_
         fail_if_success with_reducible refine Need.mk ?_ ?_
         fail_if_success with_reducible refine CallVC.mk ?_
         fail_if_success with_reducible refine LoopEnd.mk ?_
         fail_if_success with_reducible refine Out.mk ?_
         fail_if_success with_reducible show False
         fail_if_success with_reducible refine NeedI.mk ?_ ?_
         conv => whnf)
    refine CallVC.mk' (fun _ => halves_ok K.k.m K.halves 1 (data.take 16) (data.drop 16) (by omega) (by omega)) (fun _ => .cons (.one (CEq.refl _)) (.cons (.one (CEq.refl _)) (.cons (.one (CEq.refl _)) .nil))) ?_
    repeat' first
      | with_reducible refine NeedI.mk (fun h => h) ?_
      | with_reducible refine NeedI.mk (fun h => h.2) ?_
      | with_reducible refine NeedI.mk (fun h => h.1) ?_
      | with_reducible exact Done.mk
      | with_reducible refine Both.mk (fun _ => ?_) (fun _ => ?_)
      | with_reducible refine Both2.mk (fun _ => ?_) ?_
      | with_reducible refine Need.mk (by first | omega | with_reducible exact CEq.refl _ | (dsimp only; omega)) ?_
      | (fail_if_success with_reducible refine LoopVC.mk ?_
         fail_if_success with_reducible refine Need.mk ?_ ?_
         fail_if_success with_reducible refine CallVC.mk ?_
         fail_if_success with_reducible refine LoopEnd.mk ?_
         fail_if_success with_reducible refine Out.mk ?_
         fail_if_success with_reducible show False
         fail_if_success with_reducible refine NeedI.mk ?_ ?_
         conv => whnf)
    refine CallVC.mk' (fun _ => head_ok K.k.m K.head n (by omega)) (fun _ => .cons (.one (CEq.refl _)) .nil) ?_
    repeat' first
      | with_reducible refine NeedI.mk (fun h => h) ?_
      | with_reducible refine NeedI.mk (fun h => h.2) ?_
      | with_reducible refine NeedI.mk (fun h => h.1) ?_
      | with_reducible exact Done.mk
      | with_reducible refine Both.mk (fun _ => ?_) (fun _ => ?_)
      | with_reducible refine Both2.mk (fun _ => ?_) ?_
      | with_reducible refine Need.mk (by first | omega | with_reducible exact CEq.refl _ | (dsimp only; omega)) ?_
      | (fail_if_success with_reducible refine LoopVC.mk ?_
         fail_if_success with_reducible refine Need.mk ?_ ?_
         fail_if_success with_reducible refine CallVC.mk ?_
         fail_if_success with_reducible refine LoopEnd.mk ?_
         fail_if_success with_reducible refine Out.mk ?_
         fail_if_success with_reducible show False
         fail_if_success with_reducible refine NeedI.mk ?_ ?_
         conv => whnf)
    refine CallVC.mk' (fun _ => top_ok K.k.m K.top (headL n)) (fun _ => .cons (.one (CEq.refl _)) .nil) ?_
    repeat' first
      | with_reducible refine NeedI.mk (fun h => h) ?_
      | with_reducible refine NeedI.mk (fun h => h.2) ?_
      | with_reducible refine NeedI.mk (fun h => h.1) ?_
      | with_reducible exact Done.mk
      | with_reducible refine Both.mk (fun _ => ?_) (fun _ => ?_)
      | with_reducible refine Both2.mk (fun _ => ?_) ?_
      | with_reducible refine Need.mk (by first | omega | with_reducible exact CEq.refl _ | (dsimp only; omega)) ?_
      | (fail_if_success with_reducible refine LoopVC.mk ?_
         fail_if_success with_reducible refine Need.mk ?_ ?_
         fail_if_success with_reducible refine CallVC.mk ?_
         fail_if_success with_reducible refine LoopEnd.mk ?_
         fail_if_success with_reducible refine Out.mk ?_
         fail_if_success with_reducible show False
         fail_if_success with_reducible refine NeedI.mk ?_ ?_
         conv => whnf)
    refine CallVC.mk' (fun _ => home_ok K.k.m K.home n hv) (fun _ => .cons (.one (CEq.refl _)) .nil) ?_
    repeat' first
      | with_reducible refine NeedI.mk (fun h => h) ?_
      | with_reducible refine NeedI.mk (fun h => h.2) ?_
      | with_reducible refine NeedI.mk (fun h => h.1) ?_
      | with_reducible exact Done.mk
      | with_reducible refine Both.mk (fun _ => ?_) (fun _ => ?_)
      | with_reducible refine Both2.mk (fun _ => ?_) ?_
      | with_reducible refine Need.mk (by first | omega | with_reducible exact CEq.refl _ | (dsimp only; omega)) ?_
      | (fail_if_success with_reducible refine LoopVC.mk ?_
         fail_if_success with_reducible refine Need.mk ?_ ?_
         fail_if_success with_reducible refine CallVC.mk ?_
         fail_if_success with_reducible refine LoopEnd.mk ?_
         fail_if_success with_reducible refine Out.mk ?_
         fail_if_success with_reducible show False
         fail_if_success with_reducible refine NeedI.mk ?_ ?_
         conv => whnf)
    refine CallVC.mk' (fun _ => halves_ok K.k.m K.halves (home n) (data.take 16) (data.drop 16) (by unfold home; omega) (by unfold home; omega)) (fun _ => .cons (.one (CEq.refl _)) (.cons (.one (CEq.refl _)) (.cons (.one (CEq.refl _)) .nil))) ?_
    repeat' first
      | with_reducible refine NeedI.mk (fun h => h) ?_
      | with_reducible refine NeedI.mk (fun h => h.2) ?_
      | with_reducible refine NeedI.mk (fun h => h.1) ?_
      | with_reducible exact Done.mk
      | with_reducible refine Both.mk (fun _ => ?_) (fun _ => ?_)
      | with_reducible refine Both2.mk (fun _ => ?_) ?_
      | with_reducible refine Need.mk (by first | omega | with_reducible exact CEq.refl _ | (dsimp only; omega)) ?_
      | (fail_if_success with_reducible refine LoopVC.mk ?_
         fail_if_success with_reducible refine Need.mk ?_ ?_
         fail_if_success with_reducible refine CallVC.mk ?_
         fail_if_success with_reducible refine LoopEnd.mk ?_
         fail_if_success with_reducible refine Out.mk ?_
         fail_if_success with_reducible show False
         fail_if_success with_reducible refine NeedI.mk ?_ ?_
         conv => whnf)
    refine CallVC.mk' (fun _ => top_ok K.k.m K.top zs) (fun _ => .cons (.one (CEq.refl _)) .nil) ?_
    repeat' first
      | with_reducible refine NeedI.mk (fun h => h) ?_
      | with_reducible refine NeedI.mk (fun h => h.2) ?_
      | with_reducible refine NeedI.mk (fun h => h.1) ?_
      | with_reducible exact Done.mk
      | with_reducible refine Both.mk (fun _ => ?_) (fun _ => ?_)
      | with_reducible refine Both2.mk (fun _ => ?_) ?_
      | with_reducible refine Need.mk (by first | omega | with_reducible exact CEq.refl _ | (dsimp only; omega)) ?_
      | (fail_if_success with_reducible refine LoopVC.mk ?_
         fail_if_success with_reducible refine Need.mk ?_ ?_
         fail_if_success with_reducible refine CallVC.mk ?_
         fail_if_success with_reducible refine LoopEnd.mk ?_
         fail_if_success with_reducible refine Out.mk ?_
         fail_if_success with_reducible show False
         fail_if_success with_reducible refine NeedI.mk ?_ ?_
         conv => whnf)
    refine Need.mk ((((IsL.refl (l := halves 1 (data.take 16) (data.drop 16))).app rfl (IsL.refl (l := topL (headL n))).off |>.app rfl (IsL.refl (l := halves (home n) (data.take 16) (data.drop 16))).off).app rfl (IsL.refl (l := topL zs)).off).off.ceq rfl) ?_
    repeat' first
      | with_reducible refine NeedI.mk (fun h => h) ?_
      | with_reducible refine NeedI.mk (fun h => h.2) ?_
      | with_reducible refine NeedI.mk (fun h => h.1) ?_
      | with_reducible exact Done.mk
      | with_reducible refine Both.mk (fun _ => ?_) (fun _ => ?_)
      | with_reducible refine Both2.mk (fun _ => ?_) ?_
      | with_reducible refine Need.mk (by with_reducible exact CEq.refl _) ?_
      | (fail_if_success with_reducible refine LoopVC.mk ?_
         fail_if_success with_reducible refine Need.mk ?_ ?_
         fail_if_success with_reducible refine CallVC.mk ?_
         fail_if_success with_reducible refine LoopEnd.mk ?_
         fail_if_success with_reducible refine Out.mk ?_
         fail_if_success with_reducible show False
         fail_if_success with_reducible refine NeedI.mk ?_ ?_
         conv => whnf)

set_option maxHeartbeats 8000000 in
set_option maxRecDepth 100000 in
theorem get_ok (K : KJ P F) (d : Dsk) (p : Int) (S : Small d) : FnOk P (F 99) [.many 2 (dskE d), .one (.int .i64 p)] [.one (.im (.str (get d p).1)), .one (.im (.int .i64 (get d p).2))] := by
  refine fnOk K.k.m K.get ?_
  repeat' first
    | with_reducible refine NeedI.mk (fun h => h) ?_
    | with_reducible refine NeedI.mk (fun h => h.2) ?_
    | with_reducible refine NeedI.mk (fun h => h.1) ?_
    | with_reducible exact Done.mk
    | with_reducible refine Both.mk (fun _ => ?_) (fun _ => ?_)
    | with_reducible refine Both2.mk (fun _ => ?_) ?_
    | with_reducible refine Need.mk (by first | omega | with_reducible exact CEq.refl _) ?_
    | (fail_if_success with_reducible refine LoopVC.mk ?_
       fail_if_success with_reducible refine Need.mk ?_ ?_
       fail_if_success with_reducible refine CallVC.mk ?_
       fail_if_success with_reducible refine LoopEnd.mk ?_
       fail_if_success with_reducible refine Out.mk ?_
       fail_if_success with_reducible show False
       fail_if_success with_reducible refine NeedI.mk ?_ ?_
       conv => whnf)
  refine CallVC.mk' (fun _ => usable_ok K.k K.usable d S) (fun _ => .cons ((.many fun j hj => by (rcases (show j = 0 ∨ j = 1 by omega) with rfl | rfl <;> exact CEq.refl _))) .nil) ?_
  repeat' first
    | with_reducible refine NeedI.mk (fun h => h) ?_
    | with_reducible refine NeedI.mk (fun h => h.2) ?_
    | with_reducible refine NeedI.mk (fun h => h.1) ?_
    | with_reducible exact Done.mk
    | with_reducible refine Both.mk (fun _ => ?_) (fun _ => ?_)
    | with_reducible refine Both2.mk (fun _ => ?_) ?_
    | with_reducible refine Need.mk (by first | omega | with_reducible exact CEq.refl _) ?_
    | (fail_if_success with_reducible refine LoopVC.mk ?_
       fail_if_success with_reducible refine Need.mk ?_ ?_
       fail_if_success with_reducible refine CallVC.mk ?_
       fail_if_success with_reducible refine LoopEnd.mk ?_
       fail_if_success with_reducible refine Out.mk ?_
       fail_if_success with_reducible show False
       fail_if_success with_reducible refine NeedI.mk ?_ ?_
       conv => whnf)
  refine CallVC.mk' (fun _ => valid_ok K.k.m K.valid p) (fun _ => .cons (.one (CEq.refl _)) .nil) ?_
  repeat' first
    | with_reducible refine NeedI.mk (fun h => h) ?_
    | with_reducible refine NeedI.mk (fun h => h.2) ?_
    | with_reducible refine NeedI.mk (fun h => h.1) ?_
    | with_reducible exact Done.mk
    | with_reducible refine Both.mk (fun _ => ?_) (fun _ => ?_)
    | with_reducible refine Both2.mk (fun _ => ?_) ?_
    | with_reducible refine Need.mk (by first | omega | with_reducible exact CEq.refl _) ?_
    | (fail_if_success with_reducible refine LoopVC.mk ?_
       fail_if_success with_reducible refine Need.mk ?_ ?_
       fail_if_success with_reducible refine CallVC.mk ?_
       fail_if_success with_reducible refine LoopEnd.mk ?_
       fail_if_success with_reducible refine Out.mk ?_
       fail_if_success with_reducible show False
       fail_if_success with_reducible refine NeedI.mk ?_ ?_
       conv => whnf)
  · rename_i h
    have h1 : ¬ getOk d p := by
      rintro ⟨a, b⟩; rw [decide_eq_true a, decide_eq_true b] at h; simp at h
    rw [show get d p = ([], 1) from if_neg h1]
    repeat' first
      | with_reducible refine NeedI.mk (fun h => h) ?_
      | with_reducible refine NeedI.mk (fun h => h.2) ?_
      | with_reducible refine NeedI.mk (fun h => h.1) ?_
      | with_reducible exact Done.mk
      | with_reducible refine Both.mk (fun _ => ?_) (fun _ => ?_)
      | with_reducible refine Both2.mk (fun _ => ?_) ?_
      | with_reducible refine Need.mk (by with_reducible exact CEq.refl _) ?_
      | (fail_if_success with_reducible refine LoopVC.mk ?_
         fail_if_success with_reducible refine Need.mk ?_ ?_
         fail_if_success with_reducible refine CallVC.mk ?_
         fail_if_success with_reducible refine LoopEnd.mk ?_
         fail_if_success with_reducible refine Out.mk ?_
         fail_if_success with_reducible show False
         fail_if_success with_reducible refine NeedI.mk ?_ ?_
         conv => whnf)
  · rename_i h
    simp only [Bool.or_eq_false_iff, Bool.not_eq_false', decide_eq_true_eq] at h
    obtain ⟨hu, hv⟩ := h
    obtain ⟨v1, v2⟩ := id hv
    obtain ⟨n, rfl⟩ : ∃ n : Nat, p = n := ⟨p.toNat, by omega⟩
    rw [show get d n = (getS d n, 0) from if_pos ⟨hu, hv⟩]
    have hs := hu.2
    have e1 : d.rd (home n) = (d.read (2 * n + 1), 0) := by
      rw [show home n = ((2 * n + 1 : Nat) : Int) by unfold home; push_cast; rfl]
      exact rd_in hu.1 (by omega)
    have e2 : d.rd (home n + 1) = (d.read (2 * n + 2), 0) := by
      rw [show home n + 1 = ((2 * n + 2 : Nat) : Int) by unfold home; push_cast; omega]
      exact rd_in hu.1 (by omega)
    have l1 := read_len (i := 2 * n + 1) hu.1 (by omega)
    have l2 := read_len (i := 2 * n + 2) hu.1 (by omega)
    repeat' first
      | with_reducible refine NeedI.mk (fun h => h) ?_
      | with_reducible refine NeedI.mk (fun h => h.2) ?_
      | with_reducible refine NeedI.mk (fun h => h.1) ?_
      | with_reducible exact Done.mk
      | with_reducible refine Both.mk (fun _ => ?_) (fun _ => ?_)
      | with_reducible refine Both2.mk (fun _ => ?_) ?_
      | with_reducible refine Need.mk (by first | omega | with_reducible exact CEq.refl _) ?_
      | (fail_if_success with_reducible refine LoopVC.mk ?_
         fail_if_success with_reducible refine Need.mk ?_ ?_
         fail_if_success with_reducible refine CallVC.mk ?_
         fail_if_success with_reducible refine LoopEnd.mk ?_
         fail_if_success with_reducible refine Out.mk ?_
         fail_if_success with_reducible show False
         fail_if_success with_reducible refine NeedI.mk ?_ ?_
         conv => whnf)
    refine CallVC.mk' (fun _ => home_ok K.k.m K.home n hv) (fun _ => .cons (.one (CEq.refl _)) .nil) ?_
    repeat' first
      | with_reducible refine NeedI.mk (fun h => h) ?_
      | with_reducible refine NeedI.mk (fun h => h.2) ?_
      | with_reducible refine NeedI.mk (fun h => h.1) ?_
      | with_reducible exact Done.mk
      | with_reducible refine Both.mk (fun _ => ?_) (fun _ => ?_)
      | with_reducible refine Both2.mk (fun _ => ?_) ?_
      | with_reducible refine Need.mk (by first | omega | with_reducible exact CEq.refl _) ?_
      | (fail_if_success with_reducible refine LoopVC.mk ?_
         fail_if_success with_reducible refine Need.mk ?_ ?_
         fail_if_success with_reducible refine CallVC.mk ?_
         fail_if_success with_reducible refine LoopEnd.mk ?_
         fail_if_success with_reducible refine Out.mk ?_
         fail_if_success with_reducible show False
         fail_if_success with_reducible refine NeedI.mk ?_ ?_
         conv => whnf)
    refine CallVC.mk' (fun _ => K.rd d (home n) S) (fun _ => .cons ((.many fun j hj => by (rcases (show j = 0 ∨ j = 1 by omega) with rfl | rfl <;> exact CEq.refl _))) (.cons (.one (CEq.refl _)) .nil)) ?_
    rw [e1]
    repeat' first
      | with_reducible refine NeedI.mk (fun h => h) ?_
      | with_reducible refine NeedI.mk (fun h => h.2) ?_
      | with_reducible refine NeedI.mk (fun h => h.1) ?_
      | with_reducible exact Done.mk
      | with_reducible refine Both.mk (fun _ => ?_) (fun _ => ?_)
      | with_reducible refine Both2.mk (fun _ => ?_) ?_
      | with_reducible refine Need.mk (by first | omega | with_reducible exact CEq.refl _) ?_
      | (fail_if_success with_reducible refine LoopVC.mk ?_
         fail_if_success with_reducible refine Need.mk ?_ ?_
         fail_if_success with_reducible refine CallVC.mk ?_
         fail_if_success with_reducible refine LoopEnd.mk ?_
         fail_if_success with_reducible refine Out.mk ?_
         fail_if_success with_reducible show False
         fail_if_success with_reducible refine NeedI.mk ?_ ?_
         conv => whnf)
    refine CallVC.mk' (fun _ => home_ok K.k.m K.home n hv) (fun _ => .cons (.one (CEq.refl _)) .nil) ?_
    repeat' first
      | with_reducible refine NeedI.mk (fun h => h) ?_
      | with_reducible refine NeedI.mk (fun h => h.2) ?_
      | with_reducible refine NeedI.mk (fun h => h.1) ?_
      | with_reducible exact Done.mk
      | with_reducible refine Both.mk (fun _ => ?_) (fun _ => ?_)
      | with_reducible refine Both2.mk (fun _ => ?_) ?_
      | with_reducible refine Need.mk (by first | omega | with_reducible exact CEq.refl _ | (simp only [rng, home]; omega)) ?_
      | (fail_if_success with_reducible refine LoopVC.mk ?_
         fail_if_success with_reducible refine Need.mk ?_ ?_
         fail_if_success with_reducible refine CallVC.mk ?_
         fail_if_success with_reducible refine LoopEnd.mk ?_
         fail_if_success with_reducible refine Out.mk ?_
         fail_if_success with_reducible show False
         fail_if_success with_reducible refine NeedI.mk ?_ ?_
         conv => whnf)
    refine CallVC.mk' (fun _ => K.rd d (home n + 1) S) (fun _ => .cons ((.many fun j hj => by (rcases (show j = 0 ∨ j = 1 by omega) with rfl | rfl <;> exact CEq.refl _))) (.cons (.one (CEq.refl _)) .nil)) ?_
    rw [e2]
    repeat' first
      | with_reducible refine NeedI.mk (fun h => h) ?_
      | with_reducible refine NeedI.mk (fun h => h.2) ?_
      | with_reducible refine NeedI.mk (fun h => h.1) ?_
      | with_reducible exact Done.mk
      | with_reducible refine Both.mk (fun _ => ?_) (fun _ => ?_)
      | with_reducible refine Both2.mk (fun _ => ?_) ?_
      | with_reducible refine Need.mk (by first | omega | with_reducible exact CEq.refl _ | (dsimp only; omega)) ?_
      | (fail_if_success with_reducible refine LoopVC.mk ?_
         fail_if_success with_reducible refine Need.mk ?_ ?_
         fail_if_success with_reducible refine CallVC.mk ?_
         fail_if_success with_reducible refine LoopEnd.mk ?_
         fail_if_success with_reducible refine Out.mk ?_
         fail_if_success with_reducible show False
         fail_if_success with_reducible refine NeedI.mk ?_ ?_
         conv => whnf)
    refine Need.mk (CEq.refl _) ?_
    repeat' first
      | with_reducible refine NeedI.mk (fun h => h) ?_
      | with_reducible refine NeedI.mk (fun h => h.2) ?_
      | with_reducible refine NeedI.mk (fun h => h.1) ?_
      | with_reducible exact Done.mk
      | with_reducible refine Both.mk (fun _ => ?_) (fun _ => ?_)
      | with_reducible refine Both2.mk (fun _ => ?_) ?_
      | with_reducible refine Need.mk (by with_reducible exact CEq.refl _) ?_
      | (fail_if_success with_reducible refine LoopVC.mk ?_
         fail_if_success with_reducible refine Need.mk ?_ ?_
         fail_if_success with_reducible refine CallVC.mk ?_
         fail_if_success with_reducible refine LoopEnd.mk ?_
         fail_if_success with_reducible refine Out.mk ?_
         fail_if_success with_reducible show False
         fail_if_success with_reducible refine NeedI.mk ?_ ?_
         conv => whnf)

set_option maxHeartbeats 8000000 in
set_option maxRecDepth 100000 in
theorem repair_ok (K : KJ P F) (d : Dsk) (S : Small d) : FnOk P (F 107) [.many 2 (dskE d)] [.one (.im (slL 3 opE (repair d)))] := by
  refine fnOk K.k.m K.repair ?_
  repeat' first
    | with_reducible refine NeedI.mk (fun h => h) ?_
    | with_reducible refine NeedI.mk (fun h => h.2) ?_
    | with_reducible refine NeedI.mk (fun h => h.1) ?_
    | with_reducible exact Done.mk
    | with_reducible refine Both.mk (fun _ => ?_) (fun _ => ?_)
    | with_reducible refine Both2.mk (fun _ => ?_) ?_
    | with_reducible refine Need.mk (by first | omega | with_reducible exact CEq.refl _) ?_
    | (fail_if_success with_reducible refine LoopVC.mk ?_
       fail_if_success with_reducible refine Need.mk ?_ ?_
       fail_if_success with_reducible refine CallVC.mk ?_
       fail_if_success with_reducible refine LoopEnd.mk ?_
       fail_if_success with_reducible refine Out.mk ?_
       fail_if_success with_reducible show False
       fail_if_success with_reducible refine NeedI.mk ?_ ?_
       conv => whnf)
  refine CallVC.mk' (fun _ => usable_ok K.k K.usable d S) (fun _ => .cons ((.many fun j hj => by (rcases (show j = 0 ∨ j = 1 by omega) with rfl | rfl <;> exact CEq.refl _))) .nil) ?_
  repeat' first
    | with_reducible refine NeedI.mk (fun h => h) ?_
    | with_reducible refine NeedI.mk (fun h => h.2) ?_
    | with_reducible refine NeedI.mk (fun h => h.1) ?_
    | with_reducible exact Done.mk
    | with_reducible refine Both.mk (fun _ => ?_) (fun _ => ?_)
    | with_reducible refine Both2.mk (fun _ => ?_) ?_
    | with_reducible refine Need.mk (by first | omega | with_reducible exact CEq.refl _) ?_
    | (fail_if_success with_reducible refine LoopVC.mk ?_
       fail_if_success with_reducible refine Need.mk ?_ ?_
       fail_if_success with_reducible refine CallVC.mk ?_
       fail_if_success with_reducible refine LoopEnd.mk ?_
       fail_if_success with_reducible refine Out.mk ?_
       fail_if_success with_reducible show False
       fail_if_success with_reducible refine NeedI.mk ?_ ?_
       conv => whnf)
  · rename_i h
    simp only [Bool.not_eq_true', decide_eq_false_iff_not] at h
    rw [show repair d = [] from if_neg h]
    repeat' first
      | with_reducible refine NeedI.mk (fun h => h) ?_
      | with_reducible refine NeedI.mk (fun h => h.2) ?_
      | with_reducible refine NeedI.mk (fun h => h.1) ?_
      | with_reducible exact Done.mk
      | with_reducible refine Both.mk (fun _ => ?_) (fun _ => ?_)
      | with_reducible refine Both2.mk (fun _ => ?_) ?_
      | with_reducible refine Need.mk (by with_reducible exact Nat.le_of_eq (Nat.zero_add _)) ?_
      | (fail_if_success with_reducible refine LoopVC.mk ?_
         fail_if_success with_reducible refine Need.mk ?_ ?_
         fail_if_success with_reducible refine CallVC.mk ?_
         fail_if_success with_reducible refine LoopEnd.mk ?_
         fail_if_success with_reducible refine Out.mk ?_
         fail_if_success with_reducible show False
         fail_if_success with_reducible refine NeedI.mk ?_ ?_
         conv => whnf)
    refine Need.mk ceq_nil ?_
    repeat' first
      | with_reducible refine NeedI.mk (fun h => h) ?_
      | with_reducible refine NeedI.mk (fun h => h.2) ?_
      | with_reducible refine NeedI.mk (fun h => h.1) ?_
      | with_reducible exact Done.mk
      | with_reducible refine Both.mk (fun _ => ?_) (fun _ => ?_)
      | with_reducible refine Both2.mk (fun _ => ?_) ?_
      | with_reducible refine Need.mk (by with_reducible exact Nat.le_of_eq (Nat.zero_add _)) ?_
      | (fail_if_success with_reducible refine LoopVC.mk ?_
         fail_if_success with_reducible refine Need.mk ?_ ?_
         fail_if_success with_reducible refine CallVC.mk ?_
         fail_if_success with_reducible refine LoopEnd.mk ?_
         fail_if_success with_reducible refine Out.mk ?_
         fail_if_success with_reducible show False
         fail_if_success with_reducible refine NeedI.mk ?_ ?_
         conv => whnf)
  · rename_i h
    simp only [Bool.not_eq_false', decide_eq_true_eq] at h
    have hs := h.2
    have e0 : d.rd 0 = (d.read 0, 0) := rd_in (i := 0) h.1 (by omega)
    have e1 : d.rd 1 = (d.read 1, 0) := rd_in (i := 1) h.1 (by omega)
    have e2 : d.rd 2 = (d.read 2, 0) := rd_in (i := 2) h.1 (by omega)
    refine CallVC.mk' (fun _ => K.rd d 0 S) (fun _ => .cons ((.many fun j hj => by (rcases (show j = 0 ∨ j = 1 by omega) with rfl | rfl <;> exact CEq.refl _))) (.cons (.one (CEq.refl _)) .nil)) ?_
    rw [e0]
    repeat' first
      | with_reducible refine NeedI.mk (fun h => h) ?_
      | with_reducible refine NeedI.mk (fun h => h.2) ?_
      | with_reducible refine NeedI.mk (fun h => h.1) ?_
      | with_reducible exact Done.mk
      | with_reducible refine Both.mk (fun _ => ?_) (fun _ => ?_)
      | with_reducible refine Both2.mk (fun _ => ?_) ?_
      | with_reducible refine Need.mk (by first | omega | with_reducible exact CEq.refl _) ?_
      | (fail_if_success with_reducible refine LoopVC.mk ?_
         fail_if_success with_reducible refine Need.mk ?_ ?_
         fail_if_success with_reducible refine CallVC.mk ?_
         fail_if_success with_reducible refine LoopEnd.mk ?_
         fail_if_success with_reducible refine Out.mk ?_
         fail_if_success with_reducible show False
         fail_if_success with_reducible refine NeedI.mk ?_ ?_
         conv => whnf)
    · rename_i hz
      have hz : d.read 0 = zs := of_decide_eq_true hz
      rw [show repair d = [] by unfold repair; rw [if_pos h, if_pos hz]]
      repeat' first
        | with_reducible refine NeedI.mk (fun h => h) ?_
        | with_reducible refine NeedI.mk (fun h => h.2) ?_
        | with_reducible refine NeedI.mk (fun h => h.1) ?_
        | with_reducible exact Done.mk
        | with_reducible refine Both.mk (fun _ => ?_) (fun _ => ?_)
        | with_reducible refine Both2.mk (fun _ => ?_) ?_
        | with_reducible refine Need.mk (by with_reducible exact Nat.le_of_eq (Nat.zero_add _)) ?_
        | (fail_if_success with_reducible refine LoopVC.mk ?_
           fail_if_success with_reducible refine Need.mk ?_ ?_
           fail_if_success with_reducible refine CallVC.mk ?_
           fail_if_success with_reducible refine LoopEnd.mk ?_
           fail_if_success with_reducible refine Out.mk ?_
           fail_if_success with_reducible show False
           fail_if_success with_reducible refine NeedI.mk ?_ ?_
           conv => whnf)
      refine Need.mk ceq_nil ?_
      repeat' first
        | with_reducible refine NeedI.mk (fun h => h) ?_
        | with_reducible refine NeedI.mk (fun h => h.2) ?_
        | with_reducible refine NeedI.mk (fun h => h.1) ?_
        | with_reducible exact Done.mk
        | with_reducible refine Both.mk (fun _ => ?_) (fun _ => ?_)
        | with_reducible refine Both2.mk (fun _ => ?_) ?_
        | with_reducible refine Need.mk (by with_reducible exact Nat.le_of_eq (Nat.zero_add _)) ?_
        | (fail_if_success with_reducible refine LoopVC.mk ?_
           fail_if_success with_reducible refine Need.mk ?_ ?_
           fail_if_success with_reducible refine CallVC.mk ?_
           fail_if_success with_reducible refine LoopEnd.mk ?_
           fail_if_success with_reducible refine Out.mk ?_
           fail_if_success with_reducible show False
           fail_if_success with_reducible refine NeedI.mk ?_ ?_
           conv => whnf)
    · rename_i hz
      have hz : d.read 0 ≠ zs := of_decide_eq_false hz
      refine CallVC.mk' (fun _ => headed_ok K (d.read 0)) (fun _ => .cons (.one (CEq.refl _)) .nil) ?_
      repeat' first
        | with_reducible refine NeedI.mk (fun h => h) ?_
        | with_reducible refine NeedI.mk (fun h => h.2) ?_
        | with_reducible refine NeedI.mk (fun h => h.1) ?_
        | with_reducible exact Done.mk
        | with_reducible refine Both.mk (fun _ => ?_) (fun _ => ?_)
        | with_reducible refine Both2.mk (fun _ => ?_) ?_
        | with_reducible refine Need.mk (by first | omega | with_reducible exact CEq.refl _) ?_
        | (fail_if_success with_reducible refine LoopVC.mk ?_
           fail_if_success with_reducible refine Need.mk ?_ ?_
           fail_if_success with_reducible refine CallVC.mk ?_
           fail_if_success with_reducible refine LoopEnd.mk ?_
           fail_if_success with_reducible refine Out.mk ?_
           fail_if_success with_reducible show False
           fail_if_success with_reducible refine NeedI.mk ?_ ?_
           conv => whnf)
      · rename_i hh
        have hh : hdN (d.read 0) ≠ 0 := of_decide_eq_true hh
        have hl := hdN_le (d.read 0)
        rw [show repair d = halves (home (hdN (d.read 0))) (d.read 1) (d.read 2) ++ topL zs by unfold repair; rw [if_pos h, if_neg hz, if_pos hh]]
        generalize hdN (d.read 0) = n at *
        refine CallVC.mk' (fun _ => K.rd d 1 S) (fun _ => .cons ((.many fun j hj => by (rcases (show j = 0 ∨ j = 1 by omega) with rfl | rfl <;> exact CEq.refl _))) (.cons (.one (CEq.refl _)) .nil)) ?_
        rw [e1]
        repeat' first
          | with_reducible refine NeedI.mk (fun h => h) ?_
          | with_reducible refine NeedI.mk (fun h => h.2) ?_
          | with_reducible refine NeedI.mk (fun h => h.1) ?_
          | with_reducible exact Done.mk
          | with_reducible refine Both.mk (fun _ => ?_) (fun _ => ?_)
          | with_reducible refine Both2.mk (fun _ => ?_) ?_
          | with_reducible refine Need.mk (by first | omega | with_reducible exact CEq.refl _) ?_
          | (fail_if_success with_reducible refine LoopVC.mk ?_
             fail_if_success with_reducible refine Need.mk ?_ ?_
             fail_if_success with_reducible refine CallVC.mk ?_
             fail_if_success with_reducible refine LoopEnd.mk ?_
             fail_if_success with_reducible refine Out.mk ?_
             fail_if_success with_reducible show False
             fail_if_success with_reducible refine NeedI.mk ?_ ?_
             conv => whnf)
        refine CallVC.mk' (fun _ => K.rd d 2 S) (fun _ => .cons ((.many fun j hj => by (rcases (show j = 0 ∨ j = 1 by omega) with rfl | rfl <;> exact CEq.refl _))) (.cons (.one (CEq.refl _)) .nil)) ?_
        rw [e2]
        repeat' first
          | with_reducible refine NeedI.mk (fun h => h) ?_
          | with_reducible refine NeedI.mk (fun h => h.2) ?_
          | with_reducible refine NeedI.mk (fun h => h.1) ?_
          | with_reducible exact Done.mk
          | with_reducible refine Both.mk (fun _ => ?_) (fun _ => ?_)
          | with_reducible refine Both2.mk (fun _ => ?_) ?_
          | with_reducible refine Need.mk (by first | omega | with_reducible exact CEq.refl _) ?_
          | (fail_if_success with_reducible refine LoopVC.mk ?_
             fail_if_success with_reducible refine Need.mk ?_ ?_
             fail_if_success with_reducible refine CallVC.mk ?_
             fail_if_success with_reducible refine LoopEnd.mk ?_
             fail_if_success with_reducible refine Out.mk ?_
             fail_if_success with_reducible show False
             fail_if_success with_reducible refine NeedI.mk ?_ ?_
             conv => whnf)
        refine CallVC.mk' (fun _ => home_ok K.k.m K.home n ⟨by omega, by omega⟩) (fun _ => .cons (.one (CEq.refl _)) .nil) ?_
        repeat' first
          | with_reducible refine NeedI.mk (fun h => h) ?_
          | with_reducible refine NeedI.mk (fun h => h.2) ?_
          | with_reducible refine NeedI.mk (fun h => h.1) ?_
          | with_reducible exact Done.mk
          | with_reducible refine Both.mk (fun _ => ?_) (fun _ => ?_)
          | with_reducible refine Both2.mk (fun _ => ?_) ?_
          | with_reducible refine Need.mk (by first | omega | with_reducible exact CEq.refl _) ?_
          | (fail_if_success with_reducible refine LoopVC.mk ?_
             fail_if_success with_reducible refine Need.mk ?_ ?_
             fail_if_success with_reducible refine CallVC.mk ?_
             fail_if_success with_reducible refine LoopEnd.mk ?_
             fail_if_success with_reducible refine Out.mk ?_
             fail_if_success with_reducible show False
             fail_if_success with_reducible refine NeedI.mk ?_ ?_
             conv => whnf)
        refine CallVC.mk' (fun _ => halves_ok K.k.m K.halves (home n) (d.read 1) (d.read 2) (by unfold home; omega) (by unfold home; omega)) (fun _ => .cons (.one (CEq.refl _)) (.cons (.one (CEq.refl _)) (.cons (.one (CEq.refl _)) .nil))) ?_
        repeat' first
          | with_reducible refine NeedI.mk (fun h => h) ?_
          | with_reducible refine NeedI.mk (fun h => h.2) ?_
          | with_reducible refine NeedI.mk (fun h => h.1) ?_
          | with_reducible exact Done.mk
          | with_reducible refine Both.mk (fun _ => ?_) (fun _ => ?_)
          | with_reducible refine Both2.mk (fun _ => ?_) ?_
          | with_reducible refine Need.mk (by first | omega | with_reducible exact CEq.refl _) ?_
          | (fail_if_success with_reducible refine LoopVC.mk ?_
             fail_if_success with_reducible refine Need.mk ?_ ?_
             fail_if_success with_reducible refine CallVC.mk ?_
             fail_if_success with_reducible refine LoopEnd.mk ?_
             fail_if_success with_reducible refine Out.mk ?_
             fail_if_success with_reducible show False
             fail_if_success with_reducible refine NeedI.mk ?_ ?_
             conv => whnf)
        refine CallVC.mk' (fun _ => top_ok K.k.m K.top zs) (fun _ => .cons (.one (CEq.refl _)) .nil) ?_
        repeat' first
          | with_reducible refine NeedI.mk (fun h => h) ?_
          | with_reducible refine NeedI.mk (fun h => h.2) ?_
          | with_reducible refine NeedI.mk (fun h => h.1) ?_
          | with_reducible exact Done.mk
          | with_reducible refine Both.mk (fun _ => ?_) (fun _ => ?_)
          | with_reducible refine Both2.mk (fun _ => ?_) ?_
          | with_reducible refine Need.mk (by first | omega | with_reducible exact CEq.refl _ | (dsimp only; omega)) ?_
          | (fail_if_success with_reducible refine LoopVC.mk ?_
             fail_if_success with_reducible refine Need.mk ?_ ?_
             fail_if_success with_reducible refine CallVC.mk ?_
             fail_if_success with_reducible refine LoopEnd.mk ?_
             fail_if_success with_reducible refine Out.mk ?_
             fail_if_success with_reducible show False
             fail_if_success with_reducible refine NeedI.mk ?_ ?_
             conv => whnf)
        refine Need.mk (((IsL.refl (l := halves (home n) (d.read 1) (d.read 2))).app rfl (IsL.refl (l := topL zs)).off).off.ceq rfl) ?_
        repeat' first
          | with_reducible refine NeedI.mk (fun h => h) ?_
          | with_reducible refine NeedI.mk (fun h => h.2) ?_
          | with_reducible refine NeedI.mk (fun h => h.1) ?_
          | with_reducible exact Done.mk
          | with_reducible refine Both.mk (fun _ => ?_) (fun _ => ?_)
          | with_reducible refine Both2.mk (fun _ => ?_) ?_
          | with_reducible refine Need.mk (by with_reducible exact CEq.refl _) ?_
          | (fail_if_success with_reducible refine LoopVC.mk ?_
             fail_if_success with_reducible refine Need.mk ?_ ?_
             fail_if_success with_reducible refine CallVC.mk ?_
             fail_if_success with_reducible refine LoopEnd.mk ?_
             fail_if_success with_reducible refine Out.mk ?_
             fail_if_success with_reducible show False
             fail_if_success with_reducible refine NeedI.mk ?_ ?_
             conv => whnf)
      · rename_i hh
        have hh : ¬ hdN (d.read 0) ≠ 0 := of_decide_eq_false hh
        rw [show repair d = topL zs by unfold repair; rw [if_pos h, if_neg hz, if_neg hh]; rfl]
        refine CallVC.mk' (fun _ => top_ok K.k.m K.top zs) (fun _ => .cons (.one (CEq.refl _)) .nil) ?_
        repeat' first
          | with_reducible refine NeedI.mk (fun h => h) ?_
          | with_reducible refine NeedI.mk (fun h => h.2) ?_
          | with_reducible refine NeedI.mk (fun h => h.1) ?_
          | with_reducible exact Done.mk
          | with_reducible refine Both.mk (fun _ => ?_) (fun _ => ?_)
          | with_reducible refine Both2.mk (fun _ => ?_) ?_
          | with_reducible refine Need.mk (by first | omega | with_reducible exact CEq.refl _ | (dsimp only; omega)) ?_
          | (fail_if_success with_reducible refine LoopVC.mk ?_
             fail_if_success with_reducible refine Need.mk ?_ ?_
             fail_if_success with_reducible refine CallVC.mk ?_
             fail_if_success with_reducible refine LoopEnd.mk ?_
             fail_if_success with_reducible refine Out.mk ?_
             fail_if_success with_reducible show False
             fail_if_success with_reducible refine NeedI.mk ?_ ?_
             conv => whnf)
        refine Need.mk ((IsL.refl (l := topL zs)).off.off.ceq rfl) ?_
        repeat' first
          | with_reducible refine NeedI.mk (fun h => h) ?_
          | with_reducible refine NeedI.mk (fun h => h.2) ?_
          | with_reducible refine NeedI.mk (fun h => h.1) ?_
          | with_reducible exact Done.mk
          | with_reducible refine Both.mk (fun _ => ?_) (fun _ => ?_)
          | with_reducible refine Both2.mk (fun _ => ?_) ?_
          | with_reducible refine Need.mk (by with_reducible exact CEq.refl _) ?_
          | (fail_if_success with_reducible refine LoopVC.mk ?_
             fail_if_success with_reducible refine Need.mk ?_ ?_
             fail_if_success with_reducible refine CallVC.mk ?_
             fail_if_success with_reducible refine LoopEnd.mk ?_
             fail_if_success with_reducible refine Out.mk ?_
             fail_if_success with_reducible show False
             fail_if_success with_reducible refine NeedI.mk ?_ ?_
             conv => whnf)

theorem run_all {d : Dsk} {l : List Op} : run d l l.length = runL d l := by unfold run; rw [Int.toNat_natCast, List.take_length]

theorem planL_len (d : Dsk) (p : Int) (data : List UInt8) : (planL d p data).length ≤ 10 := by
  unfold planL; split
  · exact Nat.le_refl 10
  · exact Nat.zero_le _
theorem repair_len (d : Dsk) : (repair d).length ≤ 5 := by
  unfold repair; split
  · split
    · exact Nat.zero_le _
    · split
      · exact Nat.le_refl 5
      · show 2 ≤ 5; decide
  · exact Nat.zero_le _
theorem planL_data {d : Dsk} {p : Int} {data : List UInt8} : ∀ o ∈ planL d p data, o.w.data.length ≤ 1000000 := by
  unfold planL; split
  · rename_i h
    have hd := h.2.2
    have hz : zs.length = 16 := rfl
    have hh := headL_len p.toNat
    have ht : (data.take 16).length = 16 := by rw [List.length_take]; omega
    have hr : (data.drop 16).length = 16 := by rw [List.length_drop]; omega
    intro o ho
    simp only [plan, halves, topL, List.cons_append, List.nil_append, List.mem_cons, List.not_mem_nil, or_false] at ho
    rcases ho with rfl | rfl | rfl | rfl | rfl | rfl | rfl | rfl | rfl | rfl <;> (dsimp only [List.length_nil]; omega)
  · intro o ho; cases ho
theorem repair_data {d : Dsk} : ∀ o ∈ repair d, o.w.data.length ≤ 1000000 := by
  unfold repair; split
  · rename_i h
    have hs := h.2
    split
    · intro o ho; cases ho
    · have hz : zs.length = 16 := rfl
      have l1 := read_len (i := 1) h.1 (by omega)
      have l2 := read_len (i := 2) h.1 (by omega)
      intro o ho
      rcases List.mem_append.1 ho with ho | ho
      · split at ho
        · simp only [halves, List.mem_cons, List.not_mem_nil, or_false] at ho
          rcases ho with rfl | rfl | rfl <;> (dsimp only [List.length_nil]; omega)
        · cases ho
      · simp only [topL, List.mem_cons, List.not_mem_nil, or_false] at ho
        rcases ho with rfl | rfl <;> (dsimp only [List.length_nil]; omega)
  · intro o ho; cases ho

set_option maxHeartbeats 8000000 in
set_option maxRecDepth 100000 in
theorem commit_ok (K : KJ P F) (d : Dsk) (p : Int) (data : List UInt8) (S : Small d) (hl : data.length ≤ 1000000) : FnOk P (F 98) [.many 2 (dskE d), .one (.int .i64 p), .one (.str data)] [.many 2 (fun j => .im (dskE (commitD d p data) j)), .one (.im (.int .i64 (planE d p data)))] := by
  refine fnOk K.k.m K.commit ?_
  repeat' first
    | with_reducible refine NeedI.mk (fun h => h) ?_
    | with_reducible refine NeedI.mk (fun h => h.2) ?_
    | with_reducible refine NeedI.mk (fun h => h.1) ?_
    | with_reducible exact Done.mk
    | with_reducible refine Both.mk (fun _ => ?_) (fun _ => ?_)
    | with_reducible refine Both2.mk (fun _ => ?_) ?_
    | with_reducible refine Need.mk (by first | omega | with_reducible exact CEq.refl _) ?_
    | (fail_if_success with_reducible refine LoopVC.mk ?_
       fail_if_success with_reducible refine Need.mk ?_ ?_
       fail_if_success with_reducible refine CallVC.mk ?_
       fail_if_success with_reducible refine LoopEnd.mk ?_
       fail_if_success with_reducible refine Out.mk ?_
       fail_if_success with_reducible show False
       fail_if_success with_reducible refine NeedI.mk ?_ ?_
       conv => whnf)
  refine CallVC.mk' (fun _ => plan_ok K d p data S hl) (fun _ => .cons ((.many fun j hj => by (rcases (show j = 0 ∨ j = 1 by omega) with rfl | rfl <;> exact CEq.refl _))) (.cons (.one (CEq.refl _)) (.cons (.one (CEq.refl _)) .nil))) ?_
  repeat' first
    | with_reducible refine NeedI.mk (fun h => h) ?_
    | with_reducible refine NeedI.mk (fun h => h.2) ?_
    | with_reducible refine NeedI.mk (fun h => h.1) ?_
    | with_reducible exact Done.mk
    | with_reducible refine Both.mk (fun _ => ?_) (fun _ => ?_)
    | with_reducible refine Both2.mk (fun _ => ?_) ?_
    | with_reducible refine Need.mk (by first | omega | with_reducible exact CEq.refl _) ?_
    | (fail_if_success with_reducible refine LoopVC.mk ?_
       fail_if_success with_reducible refine Need.mk ?_ ?_
       fail_if_success with_reducible refine CallVC.mk ?_
       fail_if_success with_reducible refine LoopEnd.mk ?_
       fail_if_success with_reducible refine Out.mk ?_
       fail_if_success with_reducible show False
       fail_if_success with_reducible refine NeedI.mk ?_ ?_
       conv => whnf)
  · rename_i h
    have h : planE d p data ≠ 0 := by simpa using h
    have h1 : ¬ planOk d p data := fun x => h (if_pos x)
    rw [show commitD d p data = d from if_neg h1]
    repeat' first
      | with_reducible refine NeedI.mk (fun h => h) ?_
      | with_reducible refine NeedI.mk (fun h => h.2) ?_
      | with_reducible refine NeedI.mk (fun h => h.1) ?_
      | with_reducible exact Done.mk
      | with_reducible refine Both.mk (fun _ => ?_) (fun _ => ?_)
      | with_reducible refine Both2.mk (fun _ => ?_) ?_
      | with_reducible refine Need.mk (by with_reducible exact Nat.le_of_eq (Nat.zero_add _)) ?_
      | ((with_reducible refine Need.mk ?_ ?_); exact CEq.refl _)
      | (fail_if_success with_reducible refine LoopVC.mk ?_
         fail_if_success with_reducible refine Need.mk ?_ ?_
         fail_if_success with_reducible refine CallVC.mk ?_
         fail_if_success with_reducible refine LoopEnd.mk ?_
         fail_if_success with_reducible refine Out.mk ?_
         fail_if_success with_reducible show False
         fail_if_success with_reducible refine NeedI.mk ?_ ?_
         conv => whnf)
  · rename_i h
    have h : planE d p data = 0 := by simpa using h
    have h1 : planOk d p data := by
      by_cases x : planOk d p data
      · exact x
      · rw [show planE d p data = 1 from if_neg x] at h; simp at h
    have h2 := planL_len d p data
    refine CallVC.mk' (fun _ => run_ok K.k K.run d (planL d p data) (planL d p data).length S (by omega) planL_data) (fun _ => .cons ((.many fun j hj => by (rcases (show j = 0 ∨ j = 1 by omega) with rfl | rfl <;> exact CEq.refl _))) (.cons (.one (CEq.refl _)) (.cons (.one (CEq.refl _)) .nil))) ?_
    rw [run_all, show commitD d p data = runL d (plan p data) from if_pos h1, show planL d p data = plan p data from if_pos h1, show planE d p data = 0 from h]
    repeat' first
      | with_reducible refine NeedI.mk (fun h => h) ?_
      | with_reducible refine NeedI.mk (fun h => h.2) ?_
      | with_reducible refine NeedI.mk (fun h => h.1) ?_
      | with_reducible exact Done.mk
      | with_reducible refine Both.mk (fun _ => ?_) (fun _ => ?_)
      | with_reducible refine Both2.mk (fun _ => ?_) ?_
      | with_reducible refine Need.mk (by with_reducible exact Nat.le_of_eq (Nat.zero_add _)) ?_
      | ((with_reducible refine Need.mk ?_ ?_); exact CEq.refl _)
      | (fail_if_success with_reducible refine LoopVC.mk ?_
         fail_if_success with_reducible refine Need.mk ?_ ?_
         fail_if_success with_reducible refine CallVC.mk ?_
         fail_if_success with_reducible refine LoopEnd.mk ?_
         fail_if_success with_reducible refine Out.mk ?_
         fail_if_success with_reducible show False
         fail_if_success with_reducible refine NeedI.mk ?_ ?_
         conv => whnf)

set_option maxHeartbeats 8000000 in
set_option maxRecDepth 100000 in
theorem recover_ok (K : KJ P F) (d : Dsk) (S : Small d) : FnOk P (F 110) [.many 2 (dskE d)] [.many 2 (fun j => .im (dskE (recover d) j))] := by
  refine fnOk K.k.m K.recover ?_
  repeat' first
    | with_reducible refine NeedI.mk (fun h => h) ?_
    | with_reducible refine NeedI.mk (fun h => h.2) ?_
    | with_reducible refine NeedI.mk (fun h => h.1) ?_
    | with_reducible exact Done.mk
    | with_reducible refine Both.mk (fun _ => ?_) (fun _ => ?_)
    | with_reducible refine Both2.mk (fun _ => ?_) ?_
    | with_reducible refine Need.mk (by first | omega | with_reducible exact CEq.refl _) ?_
    | (fail_if_success with_reducible refine LoopVC.mk ?_
       fail_if_success with_reducible refine Need.mk ?_ ?_
       fail_if_success with_reducible refine CallVC.mk ?_
       fail_if_success with_reducible refine LoopEnd.mk ?_
       fail_if_success with_reducible refine Out.mk ?_
       fail_if_success with_reducible show False
       fail_if_success with_reducible refine NeedI.mk ?_ ?_
       conv => whnf)
  refine CallVC.mk' (fun _ => repair_ok K d S) (fun _ => .cons ((.many fun j hj => by (rcases (show j = 0 ∨ j = 1 by omega) with rfl | rfl <;> exact CEq.refl _))) .nil) ?_
  repeat' first
    | with_reducible refine NeedI.mk (fun h => h) ?_
    | with_reducible refine NeedI.mk (fun h => h.2) ?_
    | with_reducible refine NeedI.mk (fun h => h.1) ?_
    | with_reducible exact Done.mk
    | with_reducible refine Both.mk (fun _ => ?_) (fun _ => ?_)
    | with_reducible refine Both2.mk (fun _ => ?_) ?_
    | with_reducible refine Need.mk (by first | omega | with_reducible exact CEq.refl _) ?_
    | (fail_if_success with_reducible refine LoopVC.mk ?_
       fail_if_success with_reducible refine Need.mk ?_ ?_
       fail_if_success with_reducible refine CallVC.mk ?_
       fail_if_success with_reducible refine LoopEnd.mk ?_
       fail_if_success with_reducible refine Out.mk ?_
       fail_if_success with_reducible show False
       fail_if_success with_reducible refine NeedI.mk ?_ ?_
       conv => whnf)
  have h2 := repair_len d
  refine CallVC.mk' (fun _ => run_ok K.k K.run d (repair d) (repair d).length S (by omega) repair_data) (fun _ => .cons ((.many fun j hj => by (rcases (show j = 0 ∨ j = 1 by omega) with rfl | rfl <;> exact CEq.refl _))) (.cons (.one (CEq.refl _)) (.cons (.one (CEq.refl _)) .nil))) ?_
  rw [run_all]
  repeat' first
    | with_reducible refine NeedI.mk (fun h => h) ?_
    | with_reducible refine NeedI.mk (fun h => h.2) ?_
    | with_reducible refine NeedI.mk (fun h => h.1) ?_
    | with_reducible exact Done.mk
    | with_reducible refine Both.mk (fun _ => ?_) (fun _ => ?_)
    | with_reducible refine Both2.mk (fun _ => ?_) ?_
    | with_reducible refine Need.mk (by with_reducible exact Nat.le_of_eq (Nat.zero_add _)) ?_
    | ((with_reducible refine Need.mk ?_ ?_); exact CEq.refl _)
    | (fail_if_success with_reducible refine LoopVC.mk ?_
       fail_if_success with_reducible refine Need.mk ?_ ?_
       fail_if_success with_reducible refine CallVC.mk ?_
       fail_if_success with_reducible refine LoopEnd.mk ?_
       fail_if_success with_reducible refine Out.mk ?_
       fail_if_success with_reducible show False
       fail_if_success with_reducible refine NeedI.mk ?_ ?_
       conv => whnf)
end
end Lk.S12
