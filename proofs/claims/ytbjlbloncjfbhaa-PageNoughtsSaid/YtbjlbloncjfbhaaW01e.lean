/-
  Chapter 1: the table's law.
-/
import Derived.Test.YtbjlbloncjfbhaaW01d
namespace Lk.S01
open Go Lk Lk.C

theorem e1_xor (x y : BitVec 32) : e1 (x ^^^ y) = e1 x ^^^ e1 y := by
  have hb : ∀ z : BitVec 32, (z &&& 1#32 = 1#32) ↔ z.getLsbD 0 = true := fun z => by
    constructor
    · intro h
      have : (z &&& 1#32).getLsbD 0 = (1#32).getLsbD 0 := by rw [h]
      simpa using this
    · intro h
      apply BitVec.eq_of_toNat_eq
      have h1 : z.toNat % 2 = 1 := by
        rw [BitVec.getLsbD, Nat.testBit_zero] at h
        simpa using h
      simp [BitVec.toNat_and, Nat.and_one_is_mod, h1]
  have hx : ∀ z : BitVec 32, e1 z = (z >>> 1) ^^^ (if z.getLsbD 0 = true then 3988292384#32 else 0#32) := fun z => by
    by_cases h : z.getLsbD 0 = true
    · rw [e1_odd ((hb z).2 h), if_pos h]
    · rw [e1_even (fun hh => h ((hb z).1 hh)), if_neg h]; simp
  rw [hx, hx, hx, BitVec.ushiftRight_xor_distrib, BitVec.getLsbD_xor]
  cases x.getLsbD 0 <;> cases y.getLsbD 0 <;> simp [BitVec.xor_assoc]
  all_goals (try (rw [BitVec.xor_comm (y >>> 1), ← BitVec.xor_assoc]))
  all_goals (try exact BitVec.xor_comm _ _)
  all_goals (try simp [← BitVec.xor_assoc])

theorem rep_xor (k : Nat) (x y : BitVec 32) : Nat.repeat e1 k (x ^^^ y) = Nat.repeat e1 k x ^^^ Nat.repeat e1 k y := by
  induction k with
  | zero => rfl
  | succ k ih => show e1 _ = e1 _ ^^^ e1 _; rw [ih, e1_xor]

theorem rep_shift (z : BitVec 32) : ∀ k, k ≤ 8 → Nat.repeat e1 k ((z >>> 8) <<< 8) = ((z >>> 8) <<< 8) >>> k
  | 0, _ => by simp [Nat.repeat]
  | k + 1, h => by
    show e1 (Nat.repeat e1 k _) = _
    rw [rep_shift z k (by omega), e1_even, BitVec.shiftRight_add]
    intro hc
    have : (((z >>> 8) <<< 8) >>> k &&& 1#32).getLsbD 0 = (1#32).getLsbD 0 := by rw [hc]
    simp at this
    omega

theorem stp_ref (x : BitVec 32) (b : UInt8) : stp tabT x b = refStp x b := by
  have split : x ^^^ b.toBitVec.setWidth 32 = ((x.setWidth 8 ^^^ b.toBitVec).setWidth 32) ^^^ ((x >>> 8) <<< 8) := by
    apply BitVec.eq_of_getLsbD_eq
    intro i hi
    simp only [BitVec.getLsbD_xor, BitVec.getLsbD_setWidth, BitVec.getLsbD_shiftLeft, BitVec.getLsbD_ushiftRight]
    by_cases h8 : i < 8
    · simp [h8, hi]
    · have : b.toBitVec.getLsbD i = false := BitVec.getLsbD_of_ge _ _ (by omega)
      simp [h8, hi, this, show 8 + (i - 8) = i by omega]
  unfold stp refStp
  rw [split, rep_xor, rep_shift x 8 (by omega)]
  congr 1
  · unfold tabT ent
    rw [BitVec.ofInt_natCast, BitVec.ofNat_toNat, BitVec.setWidth_eq, BitVec.ofNat_toNat]
  · apply BitVec.eq_of_getLsbD_eq
    intro i hi
    simp only [BitVec.getLsbD_ushiftRight, BitVec.getLsbD_shiftLeft]
    by_cases h : 8 + i < 32
    · simp [h, show ¬ 8 + i < 8 by omega, show 8 + i - 8 = i by omega]
    · rw [BitVec.getLsbD_of_ge x (8 + i) (by omega)]
      simp [h]

theorem sum_ref (s : List UInt8) : sumS tabT s = refS s := by
  unfold sumS refS
  congr 1
  funext x b
  exact stp_ref x b
end Lk.S01
