/-
  Chapter 9: who goes, in plain Lean.
-/
import Derived.Test.YtdpghfcbkcjecaaW09a
namespace Lk.S09
open Go Lk

/-- Where the hand is, k steps on. -/
def posK (n h k : Nat) : Nat := (h + k) % n
def distK (n h i : Nat) : Nat := (i + n - h) % n

theorem posK_lt {n h k : Nat} (hn : 0 < n) : posK n h k < n := Nat.mod_lt _ hn
theorem posK_succ (n h k : Nat) : (posK n h k + 1) % n = posK n h (k + 1) := by
  unfold posK; rw [Nat.mod_add_mod, Nat.add_assoc]
theorem posK_add (n h k : Nat) : posK n h (n + k) = posK n h k := by
  unfold posK
  rw [show h + (n + k) = h + k + n by omega, Nat.add_mod_right]
theorem distK_lt {n h i : Nat} (hn : 0 < n) : distK n h i < n := Nat.mod_lt _ hn
theorem dist_pos {n h k : Nat} (hh : h < n) (hk : k < n) : distK n h (posK n h k) = k := by
  unfold distK posK
  rcases Nat.lt_or_ge (h + k) n with h1 | h1
  · rw [Nat.mod_eq_of_lt h1, show h + k + n - h = k + n by omega, Nat.add_mod_right, Nat.mod_eq_of_lt hk]
  · rw [Nat.mod_eq_sub_mod h1, Nat.mod_eq_of_lt (show h + k - n < n by omega), show h + k - n + n - h = k by omega, Nat.mod_eq_of_lt hk]
theorem pos_dist {n h i : Nat} (hh : h < n) (hi : i < n) : posK n h (distK n h i) = i := by
  unfold distK posK
  rcases Nat.lt_or_ge i h with h1 | h1
  · rw [Nat.mod_eq_of_lt (show i + n - h < n by omega), show h + (i + n - h) = i + n by omega, Nat.add_mod_right, Nat.mod_eq_of_lt hi]
  · rw [show i + n - h = (i - h) + n by omega, Nat.add_mod_right, Nat.mod_eq_of_lt (show i - h < n by omega), show h + (i - h) = i by omega, Nat.mod_eq_of_lt hi]

section
variable (c : Clk)
def Clk.n : Nat := c.frames.length
def Clk.h : Nat := c.hand.toNat
def Clk.fr (i : Nat) : Frm := c.frames.getD i default
def Clk.loose (i : Nat) : Bool := decide ((c.fr i).pins = 0)
/-- The frames behind k steps. -/
def Clk.frK (k : Nat) : List Frm := (List.range c.n).map fun i => { c.fr i with used := (c.fr i).used && !(c.loose i && decide (distK c.n c.h i < k)) }
def Clk.k1 : Nat := fstN (fun k => c.loose (posK c.n c.h k) && !(c.fr (posK c.n c.h k)).used) c.n
def Clk.k2 : Nat := fstN (fun k => c.loose (posK c.n c.h k)) c.n
def Clk.stop : Nat := if c.k1 < c.n then c.k1 else c.n + c.k2
def Clk.at' : Nat := posK c.n c.h c.stop
def Clk.any : Prop := c.k2 < c.n
instance : Decidable c.any := by unfold Clk.any; infer_instance
def Clk.goes : Prop := right c ∧ c.any
instance : Decidable c.goes := by unfold Clk.goes; infer_instance
def Clk.swept : Clk := ⟨c.frK c.stop, ((posK c.n c.h (c.stop + 1) : Nat) : Int)⟩
end

variable {c : Clk}
theorem frK_len (k : Nat) : (c.frK k).length = c.n := by simp [Clk.frK]
theorem frK_get {k i : Nat} (hi : i < c.n) : (c.frK k).getD i default = { c.fr i with used := (c.fr i).used && !(c.loose i && decide (distK c.n c.h i < k)) } := by
  unfold Clk.frK
  rw [List.getD_eq_getElem?_getD, List.getElem?_map, List.getElem?_range hi]
  rfl

theorem list_ext {l m : List Frm} (h : l.length = m.length) (hg : ∀ i, i < l.length → l.getD i default = m.getD i default) : l = m := by
  apply List.ext_getElem h
  intro i h1 h2
  have := hg i h1
  rwa [getD_eq h1, getD_eq h2] at this

theorem frK_zero : c.frK 0 = c.frames := by
  refine list_ext (by simp [Clk.frK, Clk.n]) fun i hi => ?_
  rw [frK_len] at hi
  rw [frK_get hi]
  simp [Clk.fr]

theorem set_getD {l : List Frm} {r i : Nat} {x : Frm} (hi : i < l.length) : (l.set r x).getD i default = if r = i then x else l.getD i default := by
  rw [List.getD_eq_getElem?_getD, List.getElem?_set]
  by_cases h : r = i
  · subst h; simp [hi]
  · simp [h, List.getD_eq_getElem?_getD]

theorem frK_succ (hr : right c) (k : Nat) : c.frK (k + 1) = if c.loose (posK c.n c.h k) then (c.frK k).set (posK c.n c.h k) { (c.frK k).getD (posK c.n c.h k) default with used := false } else c.frK k := by
  have hn : 0 < c.n := by have := hr.1; unfold Clk.n; omega
  have hh : c.h < c.n := by have := hr.2.2; unfold Clk.n Clk.h; omega
  have hp := posK_lt (h := c.h) (k := k) hn
  split
  · rename_i hl
    refine list_ext (by simp [frK_len]) fun i hi => ?_
    rw [frK_len] at hi
    rw [set_getD (by rw [frK_len]; exact hi), frK_get hi]
    by_cases he : posK c.n c.h k = i
    · subst he
      rw [if_pos rfl, frK_get hp]
      have hd : distK c.n c.h (posK c.n c.h k) < k + 1 := by
        rcases Nat.lt_or_ge k c.n with h | h
        · rw [dist_pos hh h]; omega
        · have := distK_lt (h := c.h) (i := posK c.n c.h k) hn; omega
      simp [hl, hd]
    · rw [if_neg he, frK_get hi]
      have hd : (distK c.n c.h i < k + 1) ↔ (distK c.n c.h i < k) := by
        constructor
        · intro h
          rcases Nat.lt_or_ge (distK c.n c.h i) k with h1 | h1
          · exact h1
          · exact absurd (by rw [← pos_dist hh hi]; congr 1; omega) he
        · omega
      simp only [hd]
  · rename_i hl
    refine list_ext (by simp [frK_len]) fun i hi => ?_
    rw [frK_len] at hi
    rw [frK_get hi, frK_get hi]
    by_cases hli : c.loose i = true
    · have hd : (distK c.n c.h i < k + 1) ↔ (distK c.n c.h i < k) := by
        constructor
        · intro h
          rcases Nat.lt_or_ge (distK c.n c.h i) k with h1 | h1
          · exact h1
          · exfalso
            apply hl
            have : distK c.n c.h i = k := by omega
            rw [← this, pos_dist hh hi]; exact hli
        · omega
      simp only [hd]
    · simp [hli]

theorem stop_iff (hg : c.goes) {k : Nat} (hk : k ≤ c.stop) : (c.loose (posK c.n c.h k) && !((c.frK k).getD (posK c.n c.h k) default).used) = decide (k = c.stop) := by
  obtain ⟨hr, ha⟩ := hg
  have hn : 0 < c.n := by have := hr.1; unfold Clk.n; omega
  have hh : c.h < c.n := by have := hr.2.2; unfold Clk.n Clk.h; omega
  have hp := posK_lt (h := c.h) (k := k) hn
  rw [frK_get hp]
  unfold Clk.any at ha
  unfold Clk.stop at hk ⊢
  rcases Nat.lt_or_ge k c.n with hkn | hkn
  · rw [dist_pos hh hkn]
    simp only [Nat.lt_irrefl, decide_false, Bool.and_false, Bool.not_false, Bool.and_true]
    by_cases h1 : c.k1 < c.n
    · rw [if_pos h1] at hk ⊢
      by_cases h2 : k = c.k1
      · rw [decide_eq_true h2]
        unfold Clk.k1 at h2 h1
        rw [h2]
        exact fstN_at h1
      · rw [decide_eq_false h2]
        exact fstN_ahead (show k < c.k1 by omega)
    · rw [if_neg h1, decide_eq_false (by omega)]
      have h3 := fstN_le (fun k => c.loose (posK c.n c.h k) && !(c.fr (posK c.n c.h k)).used) c.n
      exact fstN_ahead (n := c.n) (p := fun k => c.loose (posK c.n c.h k) && !(c.fr (posK c.n c.h k)).used) (show k < c.k1 by unfold Clk.k1 at h1 ⊢; omega)
  · have hd : distK c.n c.h (posK c.n c.h k) < k := by have := distK_lt (h := c.h) (i := posK c.n c.h k) hn; omega
    simp only [hd, decide_true, Bool.and_true]
    have h1 : ¬ c.k1 < c.n := fun h => by rw [if_pos h] at hk; omega
    rw [if_neg h1] at hk ⊢
    have hpk : posK c.n c.h k = posK c.n c.h (k - c.n) := by rw [← posK_add c.n c.h (k - c.n)]; congr 1; omega
    by_cases h2 : k = c.n + c.k2
    · rw [decide_eq_true h2]
      have h3 : c.loose (posK c.n c.h k) = true := by
        rw [hpk, show k - c.n = c.k2 by omega]
        exact fstN_at (p := fun k => c.loose (posK c.n c.h k)) ha
      simp [h3]
    · rw [decide_eq_false h2]
      have h3 : c.loose (posK c.n c.h k) = false := by
        rw [hpk]
        exact fstN_ahead (p := fun k => c.loose (posK c.n c.h k)) (show k - c.n < c.k2 by omega)
      simp [h3]

theorem frK_loose {k i : Nat} (hi : i < c.n) : decide (((c.frK k).getD i default).pins = 0) = c.loose i := by
  rw [frK_get hi]; rfl

theorem stop_iff' (hg : c.goes) {k : Nat} (hk : k ≤ c.stop) : (!decide (((c.frK k).getD (posK c.n c.h k) default).pins = 0) || ((c.frK k).getD (posK c.n c.h k) default).used) = !decide (k = c.stop) := by
  have hn : 0 < c.n := by have := hg.1.1; unfold Clk.n; omega
  rw [← stop_iff hg hk, frK_loose (posK_lt hn)]
  simp
end Lk.S09
