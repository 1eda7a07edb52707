/-
  Chapter 2: PageNoughts.
-/
import Derived.Test.YtbjlbloncjfbhaaW02h
namespace Lk.S02
open Go Lk Lk.C Lk.S01

theorem bytes0 {n : Nat} {f : Nat → Cell} (h : ∀ i, toU8 (f i) = 0) : bytesOf n f = List.replicate n 0 := by
  unfold bytesOf
  refine List.eq_replicate_iff.2 ⟨by simp, fun b hb => ?_⟩
  obtain ⟨i, _, rfl⟩ := List.mem_map.1 hb
  exact h i

section
variable {P : Program} {F : Nat → Nat}

set_option maxHeartbeats 8000000 in
set_option maxRecDepth 100000 in
theorem pageNoughts_law (L : KLaw P F) (hk : law02_PageNoughts_k P F) (id many : UInt8) (v : Int) (hv : 0 ≤ v) (hv2 : v ≤ 4294967295) :
    FnOk P (F 69) [.one (.int .u8 id.toNat), .one (.int .u8 many.toNat), .one (.int .u32 v)] [.one (.im (.bool true))] := by
  refine fnOk L.k.m hk ?_
  have hid := Nat.mod_lt id.toNat (show 16 > 0 by omega)
  have hva : 0 ≤ v % 1073741824 ∧ v % 1073741824 < 1073741824 := by omega
  have hm := Nat.mod_lt many.toNat (show 17 > 0 by omega)
  have hmod : (many.toNat : Int) % 17 = ((many.toNat % 17 : Nat) : Int) := by push_cast; rfl
  repeat' first
    | with_reducible refine NeedI.mk (fun h => h) ?_
    | with_reducible refine NeedI.mk (fun h => h.2) ?_
    | with_reducible refine NeedI.mk (fun h => h.1) ?_
    | with_reducible exact Done.mk
    | with_reducible refine Both.mk (fun _ => ?_) (fun _ => ?_)
    | with_reducible refine Both2.mk (fun _ => ?_) ?_
    | with_reducible refine Need.mk (by first | omega | with_reducible exact CEq.refl _ | (simp only [rng]; omega)) ?_
    | (fail_if_success with_reducible refine LoopVC.mk ?_
       fail_if_success with_reducible refine Need.mk ?_ ?_
       fail_if_success with_reducible refine CallVC.mk ?_
       fail_if_success with_reducible refine LoopEnd.mk ?_
       fail_if_success with_reducible refine Out.mk ?_
       fail_if_success with_reducible show False
       fail_if_success with_reducible refine NeedI.mk ?_ ?_
       conv => whnf)
  rw [hmod]
  refine Need.mk (fun i _ => trivial) ?_
  rw [Int.toNat_natCast, bytes0 (fun _ => rfl)]
  generalize many.toNat % 17 = m at *
  have rp : right ⟨1 + (id.toNat : Int) % 16, 1 + v % 1073741824, List.replicate m 0⟩ := right_mk (by omega) (by omega) (by omega) (by omega) (by rw [List.length_replicate]; omega)
  have hl : (List.replicate m (0 : UInt8)).length ≤ 9223372036854775807 := by rw [List.length_replicate]; omega
  have hl2 : (List.replicate m (0 : UInt8) ++ [0]).length ≤ 9223372036854775807 := by rw [List.length_append, List.length_replicate]; show m + 1 ≤ _; omega
  have l1 := putS_len rp.2.2
  repeat' first
    | with_reducible refine NeedI.mk (fun h => h) ?_
    | with_reducible refine NeedI.mk (fun h => h.2) ?_
    | with_reducible refine NeedI.mk (fun h => h.1) ?_
    | with_reducible exact Done.mk
    | with_reducible refine Both.mk (fun _ => ?_) (fun _ => ?_)
    | with_reducible refine Both2.mk (fun _ => ?_) ?_
    | with_reducible refine Need.mk (by first | omega | with_reducible exact CEq.refl _ | (simp only [rng]; omega)) ?_
    | (fail_if_success with_reducible refine LoopVC.mk ?_
       fail_if_success with_reducible refine Need.mk ?_ ?_
       fail_if_success with_reducible refine CallVC.mk ?_
       fail_if_success with_reducible refine LoopEnd.mk ?_
       fail_if_success with_reducible refine Out.mk ?_
       fail_if_success with_reducible show False
       fail_if_success with_reducible refine NeedI.mk ?_ ?_
       conv => whnf)
  refine CallVC.mk' (fun _ => put_ok L.k ⟨1 + (id.toNat : Int) % 16, 1 + v % 1073741824, List.replicate m 0⟩ hl) (fun _ => .cons ((.many fun j hj => by (rcases (show j = 0 ∨ j = 1 ∨ j = 2 by omega) with rfl | rfl | rfl <;> exact CEq.refl _))) .nil) ?_
  rw [show put _ = putS _ from if_pos rp, show putE _ = 0 from if_pos rp]
  repeat' first
    | with_reducible refine NeedI.mk (fun h => h) ?_
    | with_reducible refine NeedI.mk (fun h => h.2) ?_
    | with_reducible refine NeedI.mk (fun h => h.1) ?_
    | with_reducible exact Done.mk
    | with_reducible refine Both.mk (fun _ => ?_) (fun _ => ?_)
    | with_reducible refine Both2.mk (fun _ => ?_) ?_
    | with_reducible refine Need.mk (by first | omega | with_reducible exact CEq.refl _) ?_
    | (fail_if_success with_reducible refine LoopVC.mk ?_
       fail_if_success with_reducible refine Need.mk ?_ ?_
       fail_if_success with_reducible refine CallVC.mk ?_
       fail_if_success with_reducible refine LoopEnd.mk ?_
       fail_if_success with_reducible refine Out.mk ?_
       fail_if_success with_reducible show False
       fail_if_success with_reducible refine NeedI.mk ?_ ?_
       conv => whnf)
  refine CallVC.mk' (fun _ => take_ok L.k (putS ⟨1 + (id.toNat : Int) % 16, 1 + v % 1073741824, List.replicate m 0⟩) (by omega)) (fun _ => .cons (.one (CEq.refl _)) .nil) ?_
  rw [took_put rp]
  repeat' first
    | with_reducible refine NeedI.mk (fun h => h) ?_
    | with_reducible refine NeedI.mk (fun h => h.2) ?_
    | with_reducible refine NeedI.mk (fun h => h.1) ?_
    | with_reducible exact Done.mk
    | with_reducible refine Both.mk (fun _ => ?_) (fun _ => ?_)
    | with_reducible refine Both2.mk (fun _ => ?_) ?_
    | with_reducible refine Need.mk (by first | omega | with_reducible exact CEq.refl _) ?_
    | (fail_if_success with_reducible refine LoopVC.mk ?_
       fail_if_success with_reducible refine Need.mk ?_ ?_
       fail_if_success with_reducible refine CallVC.mk ?_
       fail_if_success with_reducible refine LoopEnd.mk ?_
       fail_if_success with_reducible refine Out.mk ?_
       fail_if_success with_reducible show False
       fail_if_success with_reducible refine NeedI.mk ?_ ?_
       conv => whnf)
  refine Need.mk (by rw [List.length_replicate]; show m + 1 ≤ _; omega) ?_
  repeat' first
    | with_reducible refine NeedI.mk (fun h => h) ?_
    | with_reducible refine NeedI.mk (fun h => h.2) ?_
    | with_reducible refine NeedI.mk (fun h => h.1) ?_
    | with_reducible exact Done.mk
    | with_reducible refine Both.mk (fun _ => ?_) (fun _ => ?_)
    | with_reducible refine Both2.mk (fun _ => ?_) ?_
    | with_reducible refine Need.mk (by first | omega | with_reducible exact CEq.refl _) ?_
    | (fail_if_success with_reducible refine LoopVC.mk ?_
       fail_if_success with_reducible refine Need.mk ?_ ?_
       fail_if_success with_reducible refine CallVC.mk ?_
       fail_if_success with_reducible refine LoopEnd.mk ?_
       fail_if_success with_reducible refine Out.mk ?_
       fail_if_success with_reducible show False
       fail_if_success with_reducible refine NeedI.mk ?_ ?_
       conv => whnf)
  refine CallVC.mk' (fun _ => put_ok L.k ⟨1 + (id.toNat : Int) % 16, 1 + v % 1073741824, List.replicate m 0 ++ [0]⟩ hl2) (fun _ => .cons ((.many fun j hj => by (rcases (show j = 0 ∨ j = 1 ∨ j = 2 by omega) with rfl | rfl | rfl <;> exact CEq.refl _))) .nil) ?_
  repeat' first
    | with_reducible refine NeedI.mk (fun h => h) ?_
    | with_reducible refine NeedI.mk (fun h => h.2) ?_
    | with_reducible refine NeedI.mk (fun h => h.1) ?_
    | with_reducible exact Done.mk
    | with_reducible refine Both.mk (fun _ => ?_) (fun _ => ?_)
    | with_reducible refine Both2.mk (fun _ => ?_) ?_
    | with_reducible refine Need.mk (by first | omega | with_reducible exact CEq.refl _ | (simp only [rng]; omega)) ?_
    | (fail_if_success with_reducible refine LoopVC.mk ?_
       fail_if_success with_reducible refine Need.mk ?_ ?_
       fail_if_success with_reducible refine CallVC.mk ?_
       fail_if_success with_reducible refine LoopEnd.mk ?_
       fail_if_success with_reducible refine Out.mk ?_
       fail_if_success with_reducible show False
       fail_if_success with_reducible refine NeedI.mk ?_ ?_
       conv => whnf)
  refine CallVC.mk' (fun _ => awake_ok L) (fun _ => .nil) ?_
  repeat' first
    | with_reducible refine NeedI.mk (fun h => h) ?_
    | with_reducible refine NeedI.mk (fun h => h.2) ?_
    | with_reducible refine NeedI.mk (fun h => h.1) ?_
    | with_reducible exact Done.mk
    | with_reducible refine Both.mk (fun _ => ?_) (fun _ => ?_)
    | with_reducible refine Both2.mk (fun _ => ?_) ?_
    | with_reducible refine Need.mk (by first | omega | with_reducible exact CEq.refl _) ?_
    | (fail_if_success with_reducible refine LoopVC.mk ?_
       fail_if_success with_reducible refine Need.mk ?_ ?_
       fail_if_success with_reducible refine CallVC.mk ?_
       fail_if_success with_reducible refine LoopEnd.mk ?_
       fail_if_success with_reducible refine Out.mk ?_
       fail_if_success with_reducible show False
       fail_if_success with_reducible refine NeedI.mk ?_ ?_
       conv => whnf)
  have hq : right ⟨1 + (id.toNat : Int) % 16, 1 + v % 1073741824, List.replicate m 0 ++ [0]⟩ ↔ m < 16 := by
    constructor
    · intro h
      have h5 : (List.replicate m (0 : UInt8) ++ [0]).length ≤ 16 := h.2.2
      rw [List.length_append, List.length_replicate] at h5
      have h6 : m + 1 ≤ 16 := h5
      omega
    · intro h
      exact right_mk (by omega) (by omega) (by omega) (by omega) (by rw [List.length_append, List.length_replicate]; show m + 1 ≤ 16; omega)
  refine Need.mk (eB ?_) ?_
  · rw [hmod]
    by_cases h : m < 16
    · have rq := hq.2 h
      have hne : putS ⟨1 + (id.toNat : Int) % 16, 1 + v % 1073741824, List.replicate m 0⟩ ≠ putS ⟨1 + (id.toNat : Int) % 16, 1 + v % 1073741824, List.replicate m 0 ++ [0]⟩ := by
        intro e
        have := congrArg List.length (congrArg Pg.body (putS_inj rp rq e))
        simp at this
      rw [show put ⟨1 + (id.toNat : Int) % 16, 1 + v % 1073741824, List.replicate m 0 ++ [0]⟩ = putS _ from if_pos rq, show putE ⟨1 + (id.toNat : Int) % 16, 1 + v % 1073741824, List.replicate m 0 ++ [0]⟩ = 0 from if_pos rq, decide_eq_false hne]
      simp
      omega
    · have rq := fun x => h (hq.1 x)
      have hne : putS ⟨1 + (id.toNat : Int) % 16, 1 + v % 1073741824, List.replicate m 0⟩ ≠ [] := by
        intro e; rw [e] at l1; exact absurd l1 (by decide)
      rw [show put ⟨1 + (id.toNat : Int) % 16, 1 + v % 1073741824, List.replicate m 0 ++ [0]⟩ = [] from if_neg rq, show putE ⟨1 + (id.toNat : Int) % 16, 1 + v % 1073741824, List.replicate m 0 ++ [0]⟩ = 1 from if_neg rq, decide_eq_false hne]
      simp
      omega
  repeat' first
    | with_reducible refine NeedI.mk (fun h => h) ?_
    | with_reducible refine NeedI.mk (fun h => h.2) ?_
    | with_reducible refine NeedI.mk (fun h => h.1) ?_
    | with_reducible exact Done.mk
    | with_reducible refine Both.mk (fun _ => ?_) (fun _ => ?_)
    | with_reducible refine Both2.mk (fun _ => ?_) ?_
    | with_reducible refine Need.mk (by with_reducible exact Nat.le_of_eq (Nat.zero_add _)) ?_
    | (fail_if_success with_reducible refine LoopVC.mk ?_
       fail_if_success with_reducible refine Need.mk ?_ ?_
       fail_if_success with_reducible refine CallVC.mk ?_
       fail_if_success with_reducible refine LoopEnd.mk ?_
       fail_if_success with_reducible refine Out.mk ?_
       fail_if_success with_reducible show False
       fail_if_success with_reducible refine NeedI.mk ?_ ?_
       conv => whnf)
end
end Lk.S02
