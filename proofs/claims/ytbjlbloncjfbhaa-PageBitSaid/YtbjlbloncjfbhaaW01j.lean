/-
  Chapter 1: the sum tells texts apart.
-/
import Derived.Test.YtbjlbloncjfbhaaW01e
namespace Lk.S01
open Go Lk Lk.C

theorem e1_zero {z : BitVec 32} (h : e1 z = 0#32) : z = 0#32 := by
  by_cases hz : z &&& 1#32 = 1#32
  · rw [e1_odd hz] at h
    have h1 : ((z >>> 1) ^^^ 3988292384#32).getLsbD 31 = (0#32).getLsbD 31 := by rw [h]
    rw [BitVec.getLsbD_xor, BitVec.getLsbD_ushiftRight, BitVec.getLsbD_of_ge z (1 + 31) (by omega)] at h1
    exact absurd h1 (by decide)
  · rw [e1_even hz] at h
    apply BitVec.eq_of_toNat_eq
    have h1 : (z >>> 1).toNat = (0#32 : BitVec 32).toNat := by rw [h]
    have h2 : ¬ z.toNat % 2 = 1 := fun hh => hz (by
      apply BitVec.eq_of_toNat_eq
      simp [BitVec.toNat_and, Nat.and_one_is_mod, hh])
    simp [Nat.shiftRight_eq_div_pow] at h1
    simp
    omega

theorem e1_inj {x y : BitVec 32} (h : e1 x = e1 y) : x = y := by
  have : e1 (x ^^^ y) = 0#32 := by rw [e1_xor, h]; simp
  have := e1_zero this
  exact BitVec.xor_eq_zero_iff.1 this

theorem rep_inj {k : Nat} {x y : BitVec 32} (h : Nat.repeat e1 k x = Nat.repeat e1 k y) : x = y := by
  induction k with
  | zero => exact h
  | succ k ih => exact ih (e1_inj h)

theorem refStp_state {x y : BitVec 32} {b : UInt8} (h : refStp x b = refStp y b) : x = y := by
  have h1 := rep_inj h
  exact (BitVec.xor_left_inj _).1 h1
end Lk.S01
