/-
  Chapter 1: one bit turned; three texts laid over one another.
-/
import Derived.Test.YtbjlbloncjfbhaaW01j
namespace Lk.S01
open Go Lk Lk.C

theorem shl1_u8 {k : Nat} (hk : k < 8) : shlI .u8 1 (k : Int) = ((BitVec.twoPow 8 k).toNat : Int) := by
  rcases (show k = 0 ∨ k = 1 ∨ k = 2 ∨ k = 3 ∨ k = 4 ∨ k = 5 ∨ k = 6 ∨ k = 7 by omega) with rfl | rfl | rfl | rfl | rfl | rfl | rfl | rfl <;>
    (rw [shlI_eq]; decide)

theorem twoPow_ne {k : Nat} (hk : k < 8) : BitVec.twoPow 8 k ≠ 0#8 := by
  rcases (show k = 0 ∨ k = 1 ∨ k = 2 ∨ k = 3 ∨ k = 4 ∨ k = 5 ∨ k = 6 ∨ k = 7 by omega) with rfl | rfl | rfl | rfl | rfl | rfl | rfl | rfl <;> decide

/-- A byte with a bit turned. -/
def turned (x : UInt8) (k : Nat) : UInt8 := ⟨x.toBitVec ^^^ BitVec.twoPow 8 k⟩
theorem turned_int (x : UInt8) {k : Nat} (hk : k < 8) : bitI .xor .u8 (x.toNat : Int) (shlI .u8 1 (k : Int)) = ((turned x k).toNat : Int) := by
  rw [shl1_u8 hk, show (x.toNat : Int) = (x.toBitVec.toNat : Int) from rfl, xor_u8]; rfl
theorem turned_ne (x : UInt8) {k : Nat} (hk : k < 8) : turned x k ≠ x := by
  intro h
  have h1 : x.toBitVec ^^^ BitVec.twoPow 8 k = x.toBitVec := congrArg UInt8.toBitVec h
  apply twoPow_ne hk
  have h2 : x.toBitVec ^^^ (x.toBitVec ^^^ BitVec.twoPow 8 k) = x.toBitVec ^^^ x.toBitVec := by rw [h1]
  rw [← BitVec.xor_assoc, BitVec.xor_self, BitVec.zero_xor] at h2
  exact h2

theorem fold_inj : ∀ (l : List UInt8) {x y : BitVec 32}, l.foldl refStp x = l.foldl refStp y → x = y
  | [], _, _, h => h
  | b :: l, x, y, h => refStp_state (fold_inj l h)

theorem refStp_byte {x : BitVec 32} {a b : UInt8} (h : refStp x a = refStp x b) : a = b := by
  have h1 := rep_inj h
  have h2 : a.toBitVec.setWidth 32 = b.toBitVec.setWidth 32 := (BitVec.xor_right_inj _).1 h1
  apply UInt8.toNat_inj.1
  have h3 : (a.toBitVec.setWidth 32).toNat = (b.toBitVec.setWidth 32).toNat := by rw [h2]
  have := a.toNat_lt
  have := b.toNat_lt
  simp only [BitVec.toNat_setWidth, UInt8.toNat_toBitVec] at h3
  omega

theorem refS_set {s : List UInt8} {i : Nat} (hi : i < s.length) {y : UInt8} (h : refS (s.set i y) = refS s) : y = s.getD i 0 := by
  have h1 : s = s.take i ++ s.getD i 0 :: s.drop (i + 1) := by
    rw [List.getD_eq_getElem?_getD, List.getElem?_eq_getElem hi]
    simp
  have h2 : s.set i y = s.take i ++ y :: s.drop (i + 1) := by
    rw [List.set_eq_take_append_cons_drop, if_pos hi]
  rw [h2] at h
  conv at h => rhs; rw [h1]
  unfold refS at h
  rw [List.foldl_append, List.foldl_append, List.foldl_cons, List.foldl_cons] at h
  exact refStp_byte (fold_inj _ h)

/-! three texts -/

def xor3 (x y z : List UInt8) (n : Nat) : List UInt8 := (List.range n).map fun i => ⟨(x.getD i 0).toBitVec ^^^ (y.getD i 0).toBitVec ^^^ (z.getD i 0).toBitVec⟩
theorem xor3_len (x y z : List UInt8) (n : Nat) : (xor3 x y z n).length = n := by simp [xor3]
theorem xor3_succ (x y z : List UInt8) (n : Nat) : xor3 x y z (n + 1) = xor3 x y z n ++ [⟨(x.getD n 0).toBitVec ^^^ (y.getD n 0).toBitVec ^^^ (z.getD n 0).toBitVec⟩] := by
  simp [xor3, List.range_succ]

theorem refStp_xor3 (p q r : BitVec 32) (x y z : UInt8) : refStp (p ^^^ q ^^^ r) ⟨x.toBitVec ^^^ y.toBitVec ^^^ z.toBitVec⟩ = refStp p x ^^^ refStp q y ^^^ refStp r z := by
  unfold refStp
  rw [← rep_xor, ← rep_xor]
  congr 1
  apply BitVec.eq_of_getLsbD_eq
  intro i hi
  simp only [BitVec.getLsbD_xor, BitVec.getLsbD_setWidth, hi, decide_true, Bool.true_and]
  cases p.getLsbD i <;> cases q.getLsbD i <;> cases r.getLsbD i <;> cases x.toBitVec.getLsbD i <;> cases y.toBitVec.getLsbD i <;> cases z.toBitVec.getLsbD i <;> rfl

theorem refS_xor3 {x y z : List UInt8} : ∀ (n : Nat), n ≤ x.length → n ≤ y.length → n ≤ z.length → refS (xor3 x y z n) = refS (x.take n) ^^^ refS (y.take n) ^^^ refS (z.take n)
  | 0, _, _, _ => by
    show refS [] = _
    rw [List.take_zero, List.take_zero, List.take_zero]
    show (4294967295#32 : BitVec 32) = 4294967295#32 ^^^ 4294967295#32 ^^^ 4294967295#32
    decide
  | n + 1, hx, hy, hz => by
    have ih := refS_xor3 (x := x) (y := y) (z := z) n (by omega) (by omega) (by omega)
    rw [refS_snoc x n (by omega), refS_snoc y n (by omega), refS_snoc z n (by omega), xor3_succ, ← refStp_xor3, ← ih]
    unfold refS
    rw [List.foldl_append]
    rfl

theorem xor_i64 (x y : BitVec 32) : bitI .xor .i64 (x.toNat : Int) (y.toNat : Int) = ((x ^^^ y).toNat : Int) := by
  have h1 : ∀ z : BitVec 32, BitVec.ofInt 64 (z.toNat : Int) = z.setWidth 64 := fun z => by
    rw [BitVec.ofInt_natCast]
    apply BitVec.eq_of_toNat_eq
    simp
  rw [bitI_eq]
  show IntKind.i64.wrap (((BitVec.ofInt 64 (x.toNat : Int) ^^^ BitVec.ofInt 64 (y.toNat : Int)).toNat : Nat) : Int) = _
  rw [h1, h1, ← BitVec.setWidth_xor]
  have h2 := (x ^^^ y).isLt
  have h3 : ((x ^^^ y).setWidth 64).toNat = (x ^^^ y).toNat := by
    rw [BitVec.toNat_setWidth]
    exact Nat.mod_eq_of_lt (by omega)
  rw [h3]
  generalize (x ^^^ y).toNat = m at h2
  simp [IntKind.wrap, IntKind.signed, IntKind.bits]
  omega

theorem not_xor3 (p q r : BitVec 32) : ~~~p ^^^ ~~~q ^^^ ~~~r = ~~~(p ^^^ q ^^^ r) := by
  apply BitVec.eq_of_getLsbD_eq
  intro i hi
  simp only [BitVec.getLsbD_xor, BitVec.getLsbD_not, hi, decide_true, Bool.true_and]
  cases p.getLsbD i <;> cases q.getLsbD i <;> cases r.getLsbD i <;> rfl

/-- Bytes as a slice's data. -/
def u8E (b : UInt8) (_ : Nat) : Cell := .int .u8 (b.toNat : Int)
theorem bytesOf_list {n : Nat} {f : Nat → Cell} {l : List UInt8} (hn : n = l.length) (h : ∀ i, i < n → f i = .int .u8 ((l.getD i 0).toNat : Int)) : bytesOf n f = l := by
  subst hn
  apply List.ext_getElem (by simp [bytesOf])
  intro i h1 h2
  simp only [bytesOf, List.getElem_map, List.getElem_range]
  rw [h i h2]
  simp only [toU8, Int.toNat_natCast]
  rw [List.getD_eq_getElem?_getD, List.getElem?_eq_getElem h2]
  simp
end Lk.S01
