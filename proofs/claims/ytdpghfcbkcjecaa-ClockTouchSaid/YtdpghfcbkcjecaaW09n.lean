/-
  Chapter 9: round and round, in plain Lean.
-/
import Derived.Test.YtdpghfcbkcjecaaW09h
namespace Lk.S09
open Go Lk

theorem right_swept {c : Clk} (hr : right c) : right c.swept := by
  have hn : 0 < c.n := by have := hr.1; unfold Clk.n; omega
  have hl : c.swept.frames.length = c.frames.length := frK_len _
  refine ⟨by rw [hl]; exact hr.1, by rw [hl]; exact hr.2.1, ?_, ?_, ?_⟩
  · show 0 ≤ ((posK c.n c.h (c.stop + 1) : Nat) : Int); omega
  · rw [hl]; show ((posK c.n c.h (c.stop + 1) : Nat) : Int) < _
    have := posK_lt (h := c.h) (k := c.stop + 1) hn
    unfold Clk.n at this; unfold Clk.n; omega
  · refine all_of_getD fun i hi => ?_
    rw [hl] at hi
    have h1 : c.swept.frames.getD i default = _ := frK_get (k := c.stop) (show i < c.n from hi)
    have h2 := hr.2.2.2.2 _ (getD_mem hi)
    rw [h1]
    exact h2

theorem swept_n (c : Clk) : c.swept.n = c.n := frK_len _
theorem swept_h (c : Clk) : c.swept.h = posK c.n c.h (c.stop + 1) := by
  show ((posK c.n c.h (c.stop + 1) : Nat) : Int).toNat = _
  simp
theorem swept_fr {c : Clk} {i : Nat} (hi : i < c.n) : c.swept.fr i = { c.fr i with used := (c.fr i).used && !(c.loose i && decide (distK c.n c.h i < c.stop)) } := frK_get hi
theorem swept_loose {c : Clk} {i : Nat} (hi : i < c.n) : c.swept.loose i = c.loose i := by
  unfold Clk.loose
  rw [swept_fr hi]

/-- All frames are without pins; from the first hand on so many are not used. -/
structure Rnd (n h0 A : Nat) (c : Clk) : Prop where
  r : right c
  many : c.n = n
  hand : c.h = (h0 + A) % n
  loose : ∀ i, i < n → c.loose i = true
  un : ∀ i, i < n → distK n h0 i < A → (c.fr i).used = false

theorem Rnd.goes {n h0 A : Nat} {c : Clk} (k : Rnd n h0 A c) : c.goes := by
  refine ⟨k.r, (any_iff' k.r).2 ⟨0, ?_, k.loose 0 ?_⟩⟩
  · have := k.r.1; unfold Clk.n; omega
  · have := k.r.1; have := k.many; unfold Clk.n at this; omega

theorem Rnd.next {n h0 A : Nat} {c : Clk} (hh0 : h0 < n) (k : Rnd n h0 A c) : Rnd n h0 (A + c.stop + 1) c.swept := by
  have hn : 0 < c.n := by have := k.r.1; unfold Clk.n; omega
  have hcn := k.many
  refine ⟨right_swept k.r, (swept_n c).trans k.many, ?_, fun i hi => ?_, fun i hi hd => ?_⟩
  · rw [swept_h, k.hand, k.many]
    unfold posK
    rw [Nat.mod_add_mod]
    congr 1; omega
  · rw [swept_loose (by omega)]; exact k.loose i hi
  · rw [swept_fr (by omega)]
    show ((c.fr i).used && !(c.loose i && decide (distK c.n c.h i < c.stop))) = false
    rcases Nat.lt_or_ge (distK n h0 i) A with h1 | h1
    · rw [k.un i hi h1]; rfl
    · have hdn := distK_lt (h := h0) (i := i) (show 0 < n by omega)
      have hpos : posK n c.h (distK n h0 i - A) = i := by
        rw [k.hand]
        unfold posK
        rw [Nat.mod_add_mod, show h0 + A + (distK n h0 i - A) = h0 + distK n h0 i by omega]
        exact pos_dist hh0 hi
      have hch : c.h < n := by rw [k.hand]; exact Nat.mod_lt _ (by omega)
      have hdist : distK n c.h i = distK n h0 i - A := by
        have := dist_pos hch (show distK n h0 i - A < n by omega)
        rwa [hpos] at this
      rcases Nat.lt_or_ge (distK n h0 i - A) c.stop with h2 | h2
      · rw [k.loose i hi, k.many, hdist, decide_eq_true h2]; simp
      · have he : distK n h0 i - A = c.stop := by omega
        have hat : c.at' = i := by unfold Clk.at'; rw [k.many, ← he]; exact hpos
        have := at_unused k.goes
        rw [hat, frK_get (by omega)] at this
        exact this

/-- When all were passed, each goes in its turn. -/
theorem Rnd.turn {n h0 A : Nat} {c : Clk} (hh0 : h0 < n) (k : Rnd n h0 A c) (hA : n ≤ A) : c.stop = 0 := by
  have hcn := k.many
  have hn : 0 < c.n := by omega
  have hun : ∀ i, i < n → (c.fr i).used = false := fun i hi => k.un i hi (Nat.lt_of_lt_of_le (distK_lt (by omega)) hA)
  have hp := posK_lt (h := c.h) (k := 0) hn
  have h0 : c.k1 = 0 := by
    refine fstN_eq (Nat.zero_le _) (fun j hj => absurd hj (by omega)) fun _ => ?_
    rw [k.loose _ (by omega), hun _ (by omega)]; rfl
  unfold Clk.stop
  rw [h0, if_pos hn]

theorem at_hand {c : Clk} (hr : right c) (hs : c.stop = 0) : (c.at' : Int) = c.hand := by
  have hh : c.h < c.n := by have := hr.2.2; unfold Clk.n Clk.h; omega
  unfold Clk.at'
  rw [hs]
  unfold posK
  rw [Nat.add_zero, Nat.mod_eq_of_lt hh]
  have := hr.2.2.1
  unfold Clk.h
  omega

theorem swept_hand (c : Clk) : c.swept.hand = ((c.at' : Int) + 1) % (c.n : Int) := by
  show ((posK c.n c.h (c.stop + 1) : Nat) : Int) = _
  rw [← posK_succ]; push_cast; rfl
end Lk.S09
