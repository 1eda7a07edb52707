/-
  Chapter 2: PageBit.
-/
import Derived.Test.YtbjlbloncjfbhaaW02h
import Derived.Test.YtbjlbloncjfbhaaW01k
namespace Lk.S02
open Go Lk Lk.C Lk.S01

def body28 (s : List UInt8) : List UInt8 := s.take 12 ++ s.drop 16
theorem putS_body28 (p : Pg) : body28 (putS p) = headP p ++ tailP p := by
  unfold body28
  rw [putS_drop]
  congr 1
theorem sum28 {p : Pg} (h : right p) : num (putS p) 12 = sumN (body28 (putS p)) := by rw [putS_check h, putS_body28]
theorem num_congr {s t : List UInt8} {k : Nat} (h : ∀ j, j < 4 → s.getD (k + j) 0 = t.getD (k + j) 0) : num s k = num t k := by
  have a := num_eq s k
  have b := num_eq t k
  rw [show s.getD k 0 = t.getD k 0 from h 0 (by omega), h 1 (by omega), h 2 (by omega), h 3 (by omega)] at a
  omega
theorem num_inj {s t : List UInt8} {k : Nat} (h : num s k = num t k) : ∀ j, j < 4 → s.getD (k + j) 0 = t.getD (k + j) 0 := by
  have a := num_eq s k
  have b := num_eq t k
  have s0 := (s.getD k 0).toNat_lt
  have s1 := (s.getD (k + 1) 0).toNat_lt
  have s2 := (s.getD (k + 2) 0).toNat_lt
  have s3 := (s.getD (k + 3) 0).toNat_lt
  have t0 := (t.getD k 0).toNat_lt
  have t1 := (t.getD (k + 1) 0).toNat_lt
  have t2 := (t.getD (k + 2) 0).toNat_lt
  have t3 := (t.getD (k + 3) 0).toNat_lt
  intro j hj
  apply UInt8.toNat_inj.1
  rcases (show j = 0 ∨ j = 1 ∨ j = 2 ∨ j = 3 by omega) with rfl | rfl | rfl | rfl
  · show (s.getD k 0).toNat = (t.getD k 0).toNat
    omega
  · omega
  · omega
  · omega
theorem getD_set {s : List UInt8} {i j : Nat} {x : UInt8} (hi : i < s.length) : (s.set i x).getD j 0 = if i = j then x else s.getD j 0 := by
  rw [List.getD_eq_getElem?_getD, List.getD_eq_getElem?_getD, List.getElem?_set]
  split
  · next h => subst h; simp [hi]
  · rfl
theorem sumN_inj {s t : List UInt8} (h : sumN s = sumN t) : refS s = refS t := BitVec.not_inj.1 (BitVec.eq_of_toNat_eq h)

theorem took_turned {p : Pg} (h : right p) {i : Nat} (hi : i < 32) {x : UInt8} (hx : x ≠ (putS p).getD i 0) : took ((putS p).set i x) = (default, 9) := by
  have hl := putS_len h.2.2
  have hl' : ((putS p).set i x).length = 32 := by rw [List.length_set, hl]
  have hg : ∀ j, ((putS p).set i x).getD j 0 = if i = j then x else (putS p).getD j 0 := fun j => getD_set (by omega)
  have hnum : ∀ k, (∀ j, j < 4 → i ≠ k + j) → num ((putS p).set i x) k = num (putS p) k := fun k hk => num_congr fun j hj => by rw [hg, if_neg (hk j hj)]
  have hne : (putS p).set i x ≠ List.replicate 32 0 := by
    intro e
    by_cases hi4 : i < 4
    · have := hnum 4 (fun j _ => by omega)
      rw [e, putS_version h, show num (List.replicate 32 0) 4 = 0 by decide +kernel] at this
      have := h.2.1
      omega
    · have := hnum 0 (fun j _ => by omega)
      rw [e, putS_id h, show num (List.replicate 32 0) 0 = 0 by decide +kernel] at this
      have := h.1
      omega
  by_cases h3 : 16 < num ((putS p).set i x) 8
  · exact took_long hl' hne h3
  · refine took_bad hl' hne h3 ?_
    rintro ⟨hr, hp⟩
    generalize cut ((putS p).set i x) = q at *
    have c1 := sum28 h
    have c2 := sum28 hr
    rw [hp] at c2
    by_cases hi12 : 12 ≤ i ∧ i < 16
    · have eb : body28 ((putS p).set i x) = body28 (putS p) := by
        unfold body28
        rw [List.take_set_of_le (by omega), List.drop_set_of_lt (by omega)]
      rw [eb, ← c1] at c2
      have := num_inj c2 (i - 12) (by omega)
      rw [show 12 + (i - 12) = i by omega, hg, if_pos rfl] at this
      exact hx this
    · have en := hnum 12 (fun j hj => by omega)
      rw [en, c1] at c2
      have e1 := sumN_inj c2
      by_cases hi' : i < 12
      · have eb : body28 ((putS p).set i x) = (body28 (putS p)).set i x := by
          unfold body28
          rw [List.drop_set_of_lt (by omega), List.set_append_left _ _ (by rw [List.length_take, hl]; omega), List.take_set]
        rw [eb] at e1
        have hb : (body28 (putS p)).length = 28 := by unfold body28; rw [List.length_append, List.length_take, List.length_drop, hl]; rfl
        have := refS_set (by omega) e1.symm
        apply hx
        rw [this]
        unfold body28
        rw [List.getD_eq_getElem?_getD, List.getElem?_append_left (by rw [List.length_take, hl]; omega), List.getElem?_take_of_lt hi', ← List.getD_eq_getElem?_getD]
      · have hi16 : 16 ≤ i := by omega
        have eb : body28 ((putS p).set i x) = (body28 (putS p)).set (i - 4) x := by
          unfold body28
          rw [List.take_set_of_le (by omega), List.set_append_right _ _ (by rw [List.length_take, hl]; omega), List.length_take, hl, List.drop_set, if_neg (by omega)]
          congr 2
        rw [eb] at e1
        have hb : (body28 (putS p)).length = 28 := by unfold body28; rw [List.length_append, List.length_take, List.length_drop, hl]; rfl
        have := refS_set (by omega) e1.symm
        apply hx
        rw [this]
        unfold body28
        rw [List.getD_eq_getElem?_getD, List.getElem?_append_right (by rw [List.length_take, hl]; omega), List.length_take, hl, List.getElem?_drop, ← List.getD_eq_getElem?_getD]
        congr 1
        omega

section
variable {P : Program} {F : Nat → Nat}

set_option maxHeartbeats 8000000 in
set_option maxRecDepth 100000 in
theorem pageBit_law (L : KLaw P F) (hk : law02_PageBit_k P F) (p : Pg) (at_ bit : UInt8) (hl : p.body.length ≤ 9223372036854775807) :
    FnOk P (F 66) [.many 3 (pgE p), .one (.int .u8 at_.toNat), .one (.int .u8 (bit.toNat : Int))] [.one (.im (.bool true))] := by
  refine fnOk L.k.m hk ?_
  repeat' first
    | with_reducible refine NeedI.mk (fun h => h) ?_
    | with_reducible refine NeedI.mk (fun h => h.2) ?_
    | with_reducible refine NeedI.mk (fun h => h.1) ?_
    | with_reducible exact Done.mk
    | with_reducible refine Both.mk (fun _ => ?_) (fun _ => ?_)
    | with_reducible refine Both2.mk (fun _ => ?_) ?_
    | with_reducible refine Need.mk (by first | omega | with_reducible exact CEq.refl _) ?_
    | (fail_if_success with_reducible refine LoopVC.mk ?_
       fail_if_success with_reducible refine Need.mk ?_ ?_
       fail_if_success with_reducible refine CallVC.mk ?_
       fail_if_success with_reducible refine LoopEnd.mk ?_
       fail_if_success with_reducible refine Out.mk ?_
       fail_if_success with_reducible show False
       fail_if_success with_reducible refine NeedI.mk ?_ ?_
       conv => whnf)
  refine CallVC.mk' (fun _ => put_ok L.k p hl) (fun _ => .cons ((.many fun j hj => by (rcases (show j = 0 ∨ j = 1 ∨ j = 2 by omega) with rfl | rfl | rfl <;> exact CEq.refl _))) .nil) ?_
  repeat' first
    | with_reducible refine NeedI.mk (fun h => h) ?_
    | with_reducible refine NeedI.mk (fun h => h.2) ?_
    | with_reducible refine NeedI.mk (fun h => h.1) ?_
    | with_reducible exact Done.mk
    | with_reducible refine Both.mk (fun _ => ?_) (fun _ => ?_)
    | with_reducible refine Both2.mk (fun _ => ?_) ?_
    | with_reducible refine Need.mk (by first | omega | with_reducible exact CEq.refl _) ?_
    | (fail_if_success with_reducible refine LoopVC.mk ?_
       fail_if_success with_reducible refine Need.mk ?_ ?_
       fail_if_success with_reducible refine CallVC.mk ?_
       fail_if_success with_reducible refine LoopEnd.mk ?_
       fail_if_success with_reducible refine Out.mk ?_
       fail_if_success with_reducible show False
       fail_if_success with_reducible refine NeedI.mk ?_ ?_
       conv => whnf)
  · rename_i h
    have h5 : ¬ right p := by
      intro h5
      rw [show put p = putS p by unfold put; exact if_pos h5, show putE p = 0 by unfold putE; exact if_pos h5, putS_len h5.2.2] at h
      exact absurd h (by decide)
    rw [show putE p = 1 by unfold putE; exact if_neg h5]
    refine CallVC.mk' (fun _ => awake_ok L) (fun _ => .nil) ?_
    repeat' first
      | with_reducible refine NeedI.mk (fun h => h) ?_
      | with_reducible refine NeedI.mk (fun h => h.2) ?_
      | with_reducible refine NeedI.mk (fun h => h.1) ?_
      | with_reducible exact Done.mk
      | with_reducible refine Both.mk (fun _ => ?_) (fun _ => ?_)
      | with_reducible refine Both2.mk (fun _ => ?_) ?_
      | with_reducible refine Need.mk (by first | omega | with_reducible exact CEq.refl _) ?_
      | (fail_if_success with_reducible refine LoopVC.mk ?_
         fail_if_success with_reducible refine Need.mk ?_ ?_
         fail_if_success with_reducible refine CallVC.mk ?_
         fail_if_success with_reducible refine LoopEnd.mk ?_
         fail_if_success with_reducible refine Out.mk ?_
         fail_if_success with_reducible show False
         fail_if_success with_reducible refine NeedI.mk ?_ ?_
         conv => whnf)
    all_goals (refine Need.mk (eB (by decide)) ?_)
    repeat' first
      | with_reducible refine NeedI.mk (fun h => h) ?_
      | with_reducible refine NeedI.mk (fun h => h.2) ?_
      | with_reducible refine NeedI.mk (fun h => h.1) ?_
      | with_reducible exact Done.mk
      | with_reducible refine Both.mk (fun _ => ?_) (fun _ => ?_)
      | with_reducible refine Both2.mk (fun _ => ?_) ?_
      | with_reducible refine Need.mk (by with_reducible exact Nat.le_of_eq (Nat.zero_add _)) ?_
      | (fail_if_success with_reducible refine LoopVC.mk ?_
         fail_if_success with_reducible refine Need.mk ?_ ?_
         fail_if_success with_reducible refine CallVC.mk ?_
         fail_if_success with_reducible refine LoopEnd.mk ?_
         fail_if_success with_reducible refine Out.mk ?_
         fail_if_success with_reducible show False
         fail_if_success with_reducible refine NeedI.mk ?_ ?_
         conv => whnf)
  · rename_i h
    have h5 : right p := by
      by_cases h5 : right p
      · exact h5
      · rw [show putE p = 1 by unfold putE; exact if_neg h5] at h
        simp at h
    have hlen := putS_len h5.2.2
    rw [show put p = putS p by unfold put; exact if_pos h5]
    have hrl := Nat.mod_lt at_.toNat (show 0 < 32 by omega)
    have hri : (at_.toNat : Int) % 32 = ((at_.toNat % 32 : Nat) : Int) := by omega
    have hbk := Nat.mod_lt bit.toNat (show 0 < 8 by omega)
    have hbi : (bit.toNat : Int) % 8 = ((bit.toNat % 8 : Nat) : Int) := by omega
    have ht := took_turned h5 hrl (turned_ne ((putS p).getD (at_.toNat % 32) 0) hbk)
    generalize putS p = s at *
    have g2 : 0 ≤ (at_.toNat : Int) % 32 ∧ (at_.toNat : Int) % 32 < (s.length : Int) := by omega
    have g3 : addN 0 ((at_.toNat : Int) % 32).toNat < s.length := by rw [hri, addN_eq]; simp; omega
    have g4 : 0 ≤ (bit.toNat : Int) % 8 := by omega
    have g1 : rng .i64 (at_.toNat : Int) := by have := at_.toNat_lt; simp only [rng]; omega
    repeat' first
      | with_reducible refine NeedI.mk (fun h => h) ?_
      | with_reducible refine NeedI.mk (fun h => h.2) ?_
      | with_reducible refine NeedI.mk (fun h => h.1) ?_
      | with_reducible exact Done.mk
      | with_reducible refine Both.mk (fun _ => ?_) (fun _ => ?_)
      | with_reducible refine Both2.mk (fun _ => ?_) ?_
      | with_reducible refine Need.mk (by first | exact g1 | exact g2 | exact g3 | exact g4 | omega | (simp only [rng]; omega) | with_reducible exact Nat.le_of_eq (Nat.zero_add _)) ?_
      | (fail_if_success with_reducible refine LoopVC.mk ?_
         fail_if_success with_reducible refine Need.mk ?_ ?_
         fail_if_success with_reducible refine CallVC.mk ?_
         fail_if_success with_reducible refine LoopEnd.mk ?_
         fail_if_success with_reducible refine Out.mk ?_
         fail_if_success with_reducible show False
         fail_if_success with_reducible refine NeedI.mk ?_ ?_
         conv => whnf)
    refine Need.mk (fun i hi => ?_) ?_
    · show isU8 (updC _ _ 0 _ _ 0)
      rw [updC_at]; split <;> exact True.intro
    repeat' first
      | with_reducible refine NeedI.mk (fun h => h) ?_
      | with_reducible refine NeedI.mk (fun h => h.2) ?_
      | with_reducible refine NeedI.mk (fun h => h.1) ?_
      | with_reducible exact Done.mk
      | with_reducible refine Both.mk (fun _ => ?_) (fun _ => ?_)
      | with_reducible refine Both2.mk (fun _ => ?_) ?_
      | with_reducible refine Need.mk (by first | omega | with_reducible exact CEq.refl _) ?_
      | (fail_if_success with_reducible refine LoopVC.mk ?_
         fail_if_success with_reducible refine Need.mk ?_ ?_
         fail_if_success with_reducible refine CallVC.mk ?_
         fail_if_success with_reducible refine LoopEnd.mk ?_
         fail_if_success with_reducible refine Out.mk ?_
         fail_if_success with_reducible show False
         fail_if_success with_reducible refine NeedI.mk ?_ ?_
         conv => whnf)
    have hb : bytesOf s.length (fun i => updC (fun i _ => Cell.int .u8 ((s.getD i 0).toNat : Int)) (addN 0 ((at_.toNat : Int) % 32).toNat) 0
        (.int .u8 (bitI .xor .u8 ((s.getD (addN 0 ((at_.toNat : Int) % 32).toNat) 0).toNat : Int) (shlI .u8 1 ((bit.toNat : Int) % 8)))) (addN 0 i) 0) = s.set (at_.toNat % 32) (turned (s.getD (at_.toNat % 32) 0) (bit.toNat % 8)) := by
      refine bytesOf_list (by simp) fun i hi => ?_
      rw [updC_at]
      simp only [addN_eq, Nat.zero_add]
      rw [hri, Int.toNat_natCast, hbi, turned_int _ hbk, getD_set (by omega)]
      by_cases he : i = at_.toNat % 32
      · rw [if_pos ⟨he, trivial⟩, if_pos he.symm]
      · rw [if_neg (by rintro ⟨e, _⟩; exact he e), if_neg (Ne.symm he)]
    refine CallVC.mk' (fun _ => take_ok L.k (s.set (at_.toNat % 32) (turned (s.getD (at_.toNat % 32) 0) (bit.toNat % 8))) (by rw [List.length_set]; omega)) (fun _ => .cons (.one (eS hb)) .nil) ?_
    rw [ht]
    repeat' first
      | with_reducible refine NeedI.mk (fun h => h) ?_
      | with_reducible refine NeedI.mk (fun h => h.2) ?_
      | with_reducible refine NeedI.mk (fun h => h.1) ?_
      | with_reducible exact Done.mk
      | with_reducible refine Both.mk (fun _ => ?_) (fun _ => ?_)
      | with_reducible refine Both2.mk (fun _ => ?_) ?_
      | with_reducible refine Need.mk (by first | omega | with_reducible exact CEq.refl _) ?_
      | (fail_if_success with_reducible refine LoopVC.mk ?_
         fail_if_success with_reducible refine Need.mk ?_ ?_
         fail_if_success with_reducible refine CallVC.mk ?_
         fail_if_success with_reducible refine LoopEnd.mk ?_
         fail_if_success with_reducible refine Out.mk ?_
         fail_if_success with_reducible show False
         fail_if_success with_reducible refine NeedI.mk ?_ ?_
         conv => whnf)
    refine CallVC.mk' (fun _ => awake_ok L) (fun _ => .nil) ?_
    repeat' first
      | with_reducible refine NeedI.mk (fun h => h) ?_
      | with_reducible refine NeedI.mk (fun h => h.2) ?_
      | with_reducible refine NeedI.mk (fun h => h.1) ?_
      | with_reducible exact Done.mk
      | with_reducible refine Both.mk (fun _ => ?_) (fun _ => ?_)
      | with_reducible refine Both2.mk (fun _ => ?_) ?_
      | with_reducible refine Need.mk (by first | omega | with_reducible exact CEq.refl _) ?_
      | (fail_if_success with_reducible refine LoopVC.mk ?_
         fail_if_success with_reducible refine Need.mk ?_ ?_
         fail_if_success with_reducible refine CallVC.mk ?_
         fail_if_success with_reducible refine LoopEnd.mk ?_
         fail_if_success with_reducible refine Out.mk ?_
         fail_if_success with_reducible show False
         fail_if_success with_reducible refine NeedI.mk ?_ ?_
         conv => whnf)
    all_goals (refine Need.mk (eB (by decide)) ?_)
    repeat' first
      | with_reducible refine NeedI.mk (fun h => h) ?_
      | with_reducible refine NeedI.mk (fun h => h.2) ?_
      | with_reducible refine NeedI.mk (fun h => h.1) ?_
      | with_reducible exact Done.mk
      | with_reducible refine Both.mk (fun _ => ?_) (fun _ => ?_)
      | with_reducible refine Both2.mk (fun _ => ?_) ?_
      | with_reducible refine Need.mk (by with_reducible exact Nat.le_of_eq (Nat.zero_add _)) ?_
      | (fail_if_success with_reducible refine LoopVC.mk ?_
         fail_if_success with_reducible refine Need.mk ?_ ?_
         fail_if_success with_reducible refine CallVC.mk ?_
         fail_if_success with_reducible refine LoopEnd.mk ?_
         fail_if_success with_reducible refine Out.mk ?_
         fail_if_success with_reducible show False
         fail_if_success with_reducible refine NeedI.mk ?_ ?_
         conv => whnf)
end
end Lk.S02
