/-
  Chapter 9: ClockTouch.
-/
import Derived.Test.YtdpghfcbkcjecaaW09n
namespace Lk.S09
open Go Lk Lk.C

theorem nodup_le {l : List Nat} : ∀ {m : List Nat}, l.Nodup → (∀ x ∈ l, x ∈ m) → l.length ≤ m.length := by
  induction l with
  | nil => intro m _ _; exact Nat.zero_le _
  | cons x l ih =>
    intro m hn hs
    rw [List.nodup_cons] at hn
    have hx : x ∈ m := hs x (by simp)
    have h1 := ih (m := m.erase x) hn.2 fun y hy => by
      have hne : y ≠ x := fun e => hn.1 (e ▸ hy)
      exact (List.mem_erase_of_ne hne).2 (hs y (by simp [hy]))
    rw [List.length_erase_of_mem hx] at h1
    have := List.length_pos_of_mem hx
    simp only [List.length_cons]
    omega

/-- Frame k is touched ahead of each sweep; those in G are gone. -/
structure Tch (n k : Nat) (G : List Nat) (c : Clk) : Prop where
  r : right c
  many : c.n = n
  kn : k < n
  kG : k ∉ G
  nd : G.Nodup
  lt : ∀ x ∈ G, x < n
  loose : ∀ i, i < n → c.loose i = !decide (i ∈ G)
  un : ∀ i, i < n → i ≠ k → (c.fr i).used = false

theorem tou_fr {c : Clk} (hr : right c) (k : Nat) {i : Nat} (hi : i < c.n) : (c.tou k).fr i = { c.fr i with used := (c.fr i).used || decide ((i : Int) = (k : Int)) } := tou_get hr k hi
theorem tou_n (c : Clk) (k : Int) : (c.tou k).n = c.n := tou_len c k
theorem right_tou {c : Clk} (hr : right c) (k : Int) : right (c.tou k) := by
  refine ⟨by rw [tou_len]; exact hr.1, by rw [tou_len]; exact hr.2.1, by rw [tou_hand]; exact hr.2.2.1, by rw [tou_hand, tou_len]; exact hr.2.2.2.1, all_of_getD fun i hi => ?_⟩
  rw [tou_len] at hi
  rw [tou_get hr k hi]
  have h1 := hr.2.2.2.2 _ (getD_mem hi)
  exact h1

section
variable {n k : Nat} {G : List Nat} {c : Clk}
theorem Tch.tlo (h : Tch n k G c) {i : Nat} (hi : i < n) : (c.tou k).loose i = !decide (i ∈ G) := by
  have hcn := h.many
  rw [← h.loose i hi]
  unfold Clk.loose
  rw [tou_fr h.r k (by omega)]

theorem Tch.tfresh (h : Tch n k G c) {i : Nat} (hi : i < n) : (c.tou k).fresh i = (!decide (i ∈ G) && !decide (i = k)) := by
  have hcn := h.many
  unfold Clk.fresh
  rw [h.tlo hi, tou_fr h.r k (by omega)]
  by_cases hk : i = k
  · subst hk; simp
  · show (_ && !((c.fr i).used || decide ((i : Int) = (k : Int)))) = _
    rw [h.un i hi hk, decide_eq_false (show ¬ (i : Int) = (k : Int) by omega), decide_eq_false hk]; rfl

theorem Tch.tgoes (h : Tch n k G c) : (c.tou k).goes :=
  ⟨right_tou h.r k, (any_iff' (right_tou h.r k)).2 ⟨k, by rw [tou_n, h.many]; exact h.kn, by rw [h.tlo h.kn, decide_eq_false h.kG]; rfl⟩⟩

theorem Tch.tat (h : Tch n k G c) (hG : G.length + 1 < n) : (c.tou k).at' < n ∧ (c.tou k).at' ∉ G ∧ (c.tou k).at' ≠ k := by
  have hr := right_tou h.r k
  have hn : (c.tou k).n = n := (tou_n c k).trans h.many
  have hex : ∃ i, i < n ∧ i ∉ G ∧ i ≠ k := by
    apply Classical.byContradiction
    intro hno
    have h1 : (List.range n).length ≤ (k :: G).length := nodup_le List.nodup_range fun x hx => by
      apply Classical.byContradiction
      intro hx'
      simp only [List.mem_cons, not_or] at hx'
      exact hno ⟨x, by simpa using hx, hx'.2, hx'.1⟩
    simp at h1
    omega
  obtain ⟨i, hi, hiG, hik⟩ := hex
  have hk1 : (c.tou k).k1 < (c.tou k).n := (k1_iff hr).2 ⟨i, by omega, by rw [h.tfresh hi, decide_eq_false hiG, decide_eq_false hik]; rfl⟩
  have hs : (c.tou k).stop = (c.tou k).k1 := by unfold Clk.stop; rw [if_pos hk1]
  have hlt := at_lt hr
  rw [hn] at hlt
  have hf : (c.tou k).fresh (c.tou k).at' = true := by
    have h3 := fstN_at (p := fun j => (c.tou k).loose (posK (c.tou k).n (c.tou k).h j) && !((c.tou k).fr (posK (c.tou k).n (c.tou k).h j)).used) hk1
    have h4 : posK (c.tou k).n (c.tou k).h (fstN (fun j => (c.tou k).loose (posK (c.tou k).n (c.tou k).h j) && !((c.tou k).fr (posK (c.tou k).n (c.tou k).h j)).used) (c.tou k).n) = (c.tou k).at' := by
      unfold Clk.at'; rw [hs]; rfl
    rw [h4] at h3
    exact h3
  rw [h.tfresh hlt] at hf
  simp only [Bool.and_eq_true, Bool.not_eq_true', decide_eq_false_iff_not] at hf
  exact ⟨hlt, hf.1, hf.2⟩

theorem Tch.last (h : Tch n k G c) (hG : G.length + 1 = n) : (c.tou k).at' = k := by
  have hr := right_tou h.r k
  have hn : (c.tou k).n = n := (tou_n c k).trans h.many
  have hlt := at_lt hr
  rw [hn] at hlt
  have hlo := at_is_loose h.tgoes
  rw [h.tlo hlt] at hlo
  simp only [Bool.not_eq_true', decide_eq_false_iff_not] at hlo
  apply Classical.byContradiction
  intro hne
  have h1 : ((c.tou k).at' :: k :: G).length ≤ (List.range n).length := nodup_le (by
    rw [List.nodup_cons, List.nodup_cons]
    exact ⟨by simp only [List.mem_cons, not_or]; exact ⟨hne, hlo⟩, h.kG, h.nd⟩) fun x hx => by
      simp only [List.mem_cons] at hx
      rcases hx with rfl | rfl | hx
      · simpa using hlt
      · simpa using h.kn
      · simpa using h.lt x hx
  simp at h1
  omega

/-- A frame is pinned. -/
def pin1 (c : Clk) (i : Nat) : Clk := ⟨c.frames.set i { c.frames.getD i default with pins := 1 }, c.hand⟩

theorem Tch.next (h : Tch n k G c) (hG : G.length + 1 < n) : Tch n k ((c.tou k).at' :: G) (pin1 (c.tou k).swept (c.tou k).at') := by
  have hr := right_tou h.r k
  have hn : (c.tou k).n = n := (tou_n c k).trans h.many
  obtain ⟨h1, h2, h3⟩ := h.tat hG
  have hrs := right_swept hr
  have hl : (pin1 (c.tou k).swept (c.tou k).at').frames.length = (c.tou k).swept.frames.length := by simp [pin1]
  have hsn : (c.tou k).swept.frames.length = n := (swept_n _).trans hn
  have hfr : ∀ i, i < n → (pin1 (c.tou k).swept (c.tou k).at').fr i = if (c.tou k).at' = i then { (c.tou k).swept.fr i with pins := 1 } else (c.tou k).swept.fr i := fun i hi => by
    unfold Clk.fr pin1
    rw [set_getD (by omega)]
    by_cases he : (c.tou k).at' = i
    · rw [if_pos he, if_pos he, he]
    · rw [if_neg he, if_neg he]
  refine ⟨⟨by rw [hl]; exact hrs.1, by rw [hl]; exact hrs.2.1, hrs.2.2.1, by rw [hl]; exact hrs.2.2.2.1, all_of_getD fun i hi => ?_⟩, by show (pin1 _ _).frames.length = n; rw [hl, hsn], h.kn, ?_, List.nodup_cons.2 ⟨h2, h.nd⟩, fun x hx => ?_, fun i hi => ?_, fun i hi hik => ?_⟩
  · rw [hl, hsn] at hi
    have h4 := hrs.2.2.2.2 _ (getD_mem (show i < (c.tou k).swept.frames.length by omega))
    rw [show (pin1 (c.tou k).swept (c.tou k).at').frames.getD i default = _ from hfr i hi]
    split
    · exact ⟨h4.1, h4.2.1, by show (0 : Int) ≤ 1; omega, by show (1 : Int) ≤ 2147483647; omega⟩
    · exact h4
  · simp only [List.mem_cons, not_or]; exact ⟨fun e => h3 e.symm, h.kG⟩
  · simp only [List.mem_cons] at hx
    rcases hx with rfl | hx
    · exact h1
    · exact h.lt x hx
  · unfold Clk.loose
    rw [hfr i hi]
    by_cases he : (c.tou k).at' = i
    · rw [if_pos he]; subst he; simp
    · rw [if_neg he]
      have h5 : (c.tou k).swept.loose i = (c.tou k).loose i := swept_loose (by omega)
      rw [h.tlo hi] at h5
      unfold Clk.loose at h5
      rw [h5]
      simp only [List.mem_cons, Ne.symm he, false_or]
  · rw [hfr i hi]
    have h5 : ((c.tou k).swept.fr i).used = false := by
      rw [swept_fr (by omega), tou_fr h.r k (by have := h.many; omega)]
      show (((c.fr i).used || decide ((i : Int) = (k : Int))) && _) = false
      rw [h.un i hi hik, decide_eq_false (show ¬ (i : Int) = (k : Int) by omega)]; rfl
    split
    · exact h5
    · exact h5
end

/-- New frames. -/
def newC (n h : Nat) : Clk := ⟨List.replicate n default, (h : Int)⟩
theorem newC_get {n h i : Nat} (hi : i < n) : (newC n h).fr i = ⟨0, 0, false⟩ := by
  unfold Clk.fr newC
  rw [getD_eq (by simpa using hi)]
  simp
  rfl
theorem tch_start {n k h : Nat} (hn : n ≤ 8) (hk : k < n) (hh : h < n) : Tch n k [] (newC n h) := by
  have hl : (newC n h).frames.length = n := by simp [newC]
  refine ⟨⟨by rw [hl]; omega, by rw [hl]; exact hn, by show 0 ≤ (h : Int); omega, by rw [hl]; show (h : Int) < _; omega, all_of_getD fun i hi => ?_⟩, hl, hk, by simp, List.nodup_nil, fun x hx => by simp at hx, fun i hi => ?_, fun i hi _ => ?_⟩
  · rw [hl] at hi
    rw [show (newC n h).frames.getD i default = _ from newC_get hi]
    exact ⟨by show (0 : Int) ≤ 0; omega, by show (0 : Int) ≤ 16; omega, by show (0 : Int) ≤ 0; omega, by show (0 : Int) ≤ 2147483647; omega⟩
  · unfold Clk.loose; rw [newC_get hi]; simp
  · rw [newC_get hi]
end Lk.S09
