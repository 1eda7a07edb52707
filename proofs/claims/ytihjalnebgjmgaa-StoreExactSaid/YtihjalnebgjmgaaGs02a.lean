/-
  Gs02a: what these chapters need.
-/
import Derived.Test.YtihjalnebgjmgaaCCc
import Derived.Test.YtihjalnebgjmgaaGs01a
import Derived.Test.YtihjalnebgjmgaaLkC
set_option linter.unusedSimpArgs false
set_option linter.unusedVariables false
namespace Lk.S02
open Go Lk Lk.C
structure Pg where
  id : Int
  version : Int
  body : List UInt8
deriving DecidableEq
instance : Inhabited Pg := ⟨⟨0, 0, []⟩⟩
def pgE (p : Pg) (j : Nat) : Cell :=
  match j with
  | 0 => .int .i64 p.id
  | 1 => .int .i64 p.version
  | _ => .str p.body
def right (p : Pg) : Prop := (1 ≤ p.id ∧ p.id ≤ 16) ∧ (1 ≤ p.version ∧ p.version ≤ 2147483647) ∧ p.body.length ≤ 16
instance (p : Pg) : Decidable (right p) := by unfold right; infer_instance
def four (n : Nat) : List UInt8 := [UInt8.ofNat n, UInt8.ofNat (n / 256), UInt8.ofNat (n / 65536), UInt8.ofNat (n / 16777216)]
theorem wrap_u32_nat {n : Nat} (h : n < 4294967296) : wrapI .u32 (n : Int) = (n : Int) := by
  simp [wrapI_eq, IntKind.wrap, IntKind.signed, IntKind.bits]
  omega
theorem wrap_u8_nat (n : Nat) : UInt8.ofNat (wrapI .u8 (n : Int)).toNat = UInt8.ofNat n := by
  have : (wrapI .u8 (n : Int)).toNat = n % 256 := by
    simp [wrapI_eq, IntKind.wrap, IntKind.signed, IntKind.bits]
    omega
  rw [this]
  apply UInt8.toNat_inj.1
  simp
theorem shr_8 (n : Nat) : shrI .u32 (n : Int) 8 = ((n / 256 : Nat) : Int) := by
  rw [shrI_eq, show (2 : Int) ^ (min (8 : Int).toNat IntKind.u32.bits) = ((256 : Nat) : Int) by decide]
  exact Int.fdiv_eq_ediv_of_nonneg _ (by omega)
theorem shr_16 (n : Nat) : shrI .u32 (n : Int) 16 = ((n / 65536 : Nat) : Int) := by
  rw [shrI_eq, show (2 : Int) ^ (min (16 : Int).toNat IntKind.u32.bits) = ((65536 : Nat) : Int) by decide]
  exact Int.fdiv_eq_ediv_of_nonneg _ (by omega)
theorem shr_24 (n : Nat) : shrI .u32 (n : Int) 24 = ((n / 16777216 : Nat) : Int) := by
  rw [shrI_eq, show (2 : Int) ^ (min (24 : Int).toNat IntKind.u32.bits) = ((16777216 : Nat) : Int) by decide]
  exact Int.fdiv_eq_ediv_of_nonneg _ (by omega)
theorem u8_mod (n : Nat) : UInt8.ofNat (n % 256) = UInt8.ofNat n := by
  apply UInt8.toNat_inj.1
  simp
section
variable {P : Program} {F : Nat → Nat}
set_option maxHeartbeats 8000000 in
set_option maxRecDepth 100000 in
theorem four_ok (hm : P.follows .mixedOrders = true) (hk : page_four_k P F) (n : Nat) (hn : n < 4294967296) : FnOk P (F 72) [.one (.int .i64 n)] [.one (.im (.str (four n)))] := by
  refine fnOk hm hk ?_
  repeat' first
    | (with_reducible first | refine NeedI.mk (fun h => h) ?_ | refine NeedI.mk (fun h => h.2) ?_ | refine NeedI.mk (fun h => h.1) ?_ | exact Done.mk | refine Both.mk (fun _ => ?_) (fun _ => ?_) | refine Both2.mk (fun _ => ?_) ?_ | refine Need.mk (by first | omega | with_reducible exact CEq.refl _) ?_)
    | ((with_reducible fail_if_success first | refine LoopVC.mk ?_ | refine Need.mk ?_ ?_ | refine CallVC.mk ?_ | refine LoopEnd.mk ?_ | refine Out.mk ?_ | show False | refine NeedI.mk ?_ ?_); conv => whnf)
  rw [wrap_u32_nat hn, shr_8, shr_16, shr_24]
  refine Need.mk (Nat.le_refl 4) ?_
  repeat' first
    | (with_reducible first | refine NeedI.mk (fun h => h) ?_ | refine NeedI.mk (fun h => h.2) ?_ | refine NeedI.mk (fun h => h.1) ?_ | exact Done.mk | refine Both.mk (fun _ => ?_) (fun _ => ?_) | refine Both2.mk (fun _ => ?_) ?_ | refine Need.mk (by first | omega | with_reducible exact CEq.refl _) ?_)
    | ((with_reducible fail_if_success first | refine LoopVC.mk ?_ | refine Need.mk ?_ ?_ | refine CallVC.mk ?_ | refine LoopEnd.mk ?_ | refine Out.mk ?_ | show False | refine NeedI.mk ?_ ?_); conv => whnf)
  refine Need.mk (fun i hi => by (rcases (show i = 0 ∨ i = 1 ∨ i = 2 ∨ i = 3 by omega) with rfl | rfl | rfl | rfl <;> exact trivial)) ?_
  repeat' first
    | (with_reducible first | refine NeedI.mk (fun h => h) ?_ | refine NeedI.mk (fun h => h.2) ?_ | refine NeedI.mk (fun h => h.1) ?_ | exact Done.mk | refine Both.mk (fun _ => ?_) (fun _ => ?_) | refine Both2.mk (fun _ => ?_) ?_ | refine Need.mk (by first | omega | with_reducible exact CEq.refl _) ?_)
    | ((with_reducible fail_if_success first | refine LoopVC.mk ?_ | refine Need.mk ?_ ?_ | refine CallVC.mk ?_ | refine LoopEnd.mk ?_ | refine Out.mk ?_ | show False | refine NeedI.mk ?_ ?_); conv => whnf)
  refine Need.mk (eS ?_) ?_
  · show [UInt8.ofNat (wrapI .u8 ((n : Nat) : Int)).toNat, UInt8.ofNat (wrapI .u8 ((n / 256 : Nat) : Int)).toNat, UInt8.ofNat (wrapI .u8 ((n / 65536 : Nat) : Int)).toNat, UInt8.ofNat (wrapI .u8 ((n / 16777216 : Nat) : Int)).toNat] = four n
    rw [wrap_u8_nat, wrap_u8_nat, wrap_u8_nat, wrap_u8_nat]; rfl
  · repeat' first
      | (with_reducible first | refine NeedI.mk (fun h => h) ?_ | refine NeedI.mk (fun h => h.2) ?_ | refine NeedI.mk (fun h => h.1) ?_ | exact Done.mk | refine Both.mk (fun _ => ?_) (fun _ => ?_) | refine Both2.mk (fun _ => ?_) ?_ | refine Need.mk (by with_reducible exact Nat.le_of_eq (Nat.zero_add _)) ?_)
      | ((with_reducible fail_if_success first | refine LoopVC.mk ?_ | refine Need.mk ?_ ?_ | refine CallVC.mk ?_ | refine LoopEnd.mk ?_ | refine Out.mk ?_ | show False | refine NeedI.mk ?_ ?_); conv => whnf)
set_option maxHeartbeats 8000000 in
set_option maxRecDepth 100000 in
theorem rfour_ok (hm : P.follows .mixedOrders = true) (hk : ref02_four_k P F) (n : Nat) (hn : n < 4294967296) : FnOk P (F 74) [.one (.int .i64 n)] [.one (.im (.str (four n)))] := by
  refine fnOk hm hk ?_
  repeat' first
    | (with_reducible first | refine NeedI.mk (fun h => h) ?_ | refine NeedI.mk (fun h => h.2) ?_ | refine NeedI.mk (fun h => h.1) ?_ | exact Done.mk | refine Both.mk (fun _ => ?_) (fun _ => ?_) | refine Both2.mk (fun _ => ?_) ?_ | refine Need.mk (by first | omega | with_reducible exact CEq.refl _ | (simp only [rng]; omega)) ?_)
    | ((with_reducible fail_if_success first | refine LoopVC.mk ?_ | refine Need.mk ?_ ?_ | refine CallVC.mk ?_ | refine LoopEnd.mk ?_ | refine Out.mk ?_ | show False | refine NeedI.mk ?_ ?_); conv => whnf)
  refine Need.mk (fun i hi => by (rcases (show i = 0 ∨ i = 1 ∨ i = 2 ∨ i = 3 by omega) with rfl | rfl | rfl | rfl <;> exact trivial)) ?_
  repeat' first
    | (with_reducible first | refine NeedI.mk (fun h => h) ?_ | refine NeedI.mk (fun h => h.2) ?_ | refine NeedI.mk (fun h => h.1) ?_ | exact Done.mk | refine Both.mk (fun _ => ?_) (fun _ => ?_) | refine Both2.mk (fun _ => ?_) ?_ | refine Need.mk (by first | omega | with_reducible exact CEq.refl _) ?_)
    | ((with_reducible fail_if_success first | refine LoopVC.mk ?_ | refine Need.mk ?_ ?_ | refine CallVC.mk ?_ | refine LoopEnd.mk ?_ | refine Out.mk ?_ | show False | refine NeedI.mk ?_ ?_); conv => whnf)
  refine Need.mk (eS ?_) ?_
  · show [UInt8.ofNat (wrapI .u8 ((n % 256 : Nat) : Int)).toNat, UInt8.ofNat (wrapI .u8 ((n / 256 % 256 : Nat) : Int)).toNat, UInt8.ofNat (wrapI .u8 ((n / 65536 % 256 : Nat) : Int)).toNat, UInt8.ofNat (wrapI .u8 ((n / 16777216 : Nat) : Int)).toNat] = four n
    rw [wrap_u8_nat, wrap_u8_nat, wrap_u8_nat, wrap_u8_nat, u8_mod, u8_mod, u8_mod]; rfl
  · repeat' first
      | (with_reducible first | refine NeedI.mk (fun h => h) ?_ | refine NeedI.mk (fun h => h.2) ?_ | refine NeedI.mk (fun h => h.1) ?_ | exact Done.mk | refine Both.mk (fun _ => ?_) (fun _ => ?_) | refine Both2.mk (fun _ => ?_) ?_ | refine Need.mk (by with_reducible exact Nat.le_of_eq (Nat.zero_add _)) ?_)
      | ((with_reducible fail_if_success first | refine LoopVC.mk ?_ | refine Need.mk ?_ ?_ | refine CallVC.mk ?_ | refine LoopEnd.mk ?_ | refine Out.mk ?_ | show False | refine NeedI.mk ?_ ?_); conv => whnf)
set_option maxHeartbeats 8000000 in
set_option maxRecDepth 100000 in
theorem right_ok (hm : P.follows .mixedOrders = true) (hk : page_Right_k P F) (p : Pg) (hl : p.body.length ≤ 9223372036854775807) : FnOk P (F 60) [.many 3 (pgE p)] [.one (.im (.bool (decide (right p))))] := by
  refine fnOk hm hk ?_
  repeat' first
    | (with_reducible first | refine NeedI.mk (fun h => h) ?_ | refine NeedI.mk (fun h => h.2) ?_ | refine NeedI.mk (fun h => h.1) ?_ | exact Done.mk | refine Both.mk (fun _ => ?_) (fun _ => ?_) | refine Both2.mk (fun _ => ?_) ?_ | refine Need.mk (by first | omega | with_reducible exact CEq.refl _) ?_)
    | ((with_reducible fail_if_success first | refine LoopVC.mk ?_ | refine Need.mk ?_ ?_ | refine CallVC.mk ?_ | refine LoopEnd.mk ?_ | refine Out.mk ?_ | show False | refine NeedI.mk ?_ ?_); conv => whnf)
  · rename_i h
    simp only [Bool.or_eq_true, decide_eq_true_eq] at h
    refine Need.mk (eB ?_) ?_
    · symm; rw [decide_eq_false_iff_not]; unfold right; omega
    · repeat' first
        | (with_reducible first | refine NeedI.mk (fun h => h) ?_ | refine NeedI.mk (fun h => h.2) ?_ | refine NeedI.mk (fun h => h.1) ?_ | exact Done.mk | refine Both.mk (fun _ => ?_) (fun _ => ?_) | refine Both2.mk (fun _ => ?_) ?_ | refine Need.mk (by with_reducible exact Nat.le_of_eq (Nat.zero_add _)) ?_)
        | ((with_reducible fail_if_success first | refine LoopVC.mk ?_ | refine Need.mk ?_ ?_ | refine CallVC.mk ?_ | refine LoopEnd.mk ?_ | refine Out.mk ?_ | show False | refine NeedI.mk ?_ ?_); conv => whnf)
  · rename_i h h2
    simp only [Bool.or_eq_true, decide_eq_true_eq] at h2
    refine Need.mk (eB ?_) ?_
    · symm; rw [decide_eq_false_iff_not]; unfold right; omega
    · repeat' first
        | (with_reducible first | refine NeedI.mk (fun h => h) ?_ | refine NeedI.mk (fun h => h.2) ?_ | refine NeedI.mk (fun h => h.1) ?_ | exact Done.mk | refine Both.mk (fun _ => ?_) (fun _ => ?_) | refine Both2.mk (fun _ => ?_) ?_ | refine Need.mk (by with_reducible exact Nat.le_of_eq (Nat.zero_add _)) ?_)
        | ((with_reducible fail_if_success first | refine LoopVC.mk ?_ | refine Need.mk ?_ ?_ | refine CallVC.mk ?_ | refine LoopEnd.mk ?_ | refine Out.mk ?_ | show False | refine NeedI.mk ?_ ?_); conv => whnf)
  · rename_i h h2
    simp only [Bool.or_eq_false_iff, decide_eq_false_iff_not] at h h2
    refine Need.mk (eB ?_) ?_
    · rw [decide_eq_decide]; unfold right; omega
    · repeat' first
        | (with_reducible first | refine NeedI.mk (fun h => h) ?_ | refine NeedI.mk (fun h => h.2) ?_ | refine NeedI.mk (fun h => h.1) ?_ | exact Done.mk | refine Both.mk (fun _ => ?_) (fun _ => ?_) | refine Both2.mk (fun _ => ?_) ?_ | refine Need.mk (by with_reducible exact Nat.le_of_eq (Nat.zero_add _)) ?_)
        | ((with_reducible fail_if_success first | refine LoopVC.mk ?_ | refine Need.mk ?_ ?_ | refine CallVC.mk ?_ | refine LoopEnd.mk ?_ | refine Out.mk ?_ | show False | refine NeedI.mk ?_ ?_); conv => whnf)
set_option maxHeartbeats 8000000 in
set_option maxRecDepth 100000 in
theorem rright_ok (hm : P.follows .mixedOrders = true) (hk : ref02_Right_k P F) (p : Pg) (hl : p.body.length ≤ 9223372036854775807) : FnOk P (F 59) [.many 3 (pgE p)] [.one (.im (.bool (decide (right p))))] := by
  refine fnOk hm hk ?_
  repeat' first
    | (with_reducible first | refine NeedI.mk (fun h => h) ?_ | refine NeedI.mk (fun h => h.2) ?_ | refine NeedI.mk (fun h => h.1) ?_ | exact Done.mk | refine Both.mk (fun _ => ?_) (fun _ => ?_) | refine Both2.mk (fun _ => ?_) ?_ | refine Need.mk (by first | omega | with_reducible exact CEq.refl _) ?_)
    | ((with_reducible fail_if_success first | refine LoopVC.mk ?_ | refine Need.mk ?_ ?_ | refine CallVC.mk ?_ | refine LoopEnd.mk ?_ | refine Out.mk ?_ | show False | refine NeedI.mk ?_ ?_); conv => whnf)
  refine Need.mk (eB ?_) ?_
  · rw [Bool.eq_iff_iff]
    simp only [Bool.and_eq_true, decide_eq_true_eq]
    unfold right; omega
  · repeat' first
      | (with_reducible first | refine NeedI.mk (fun h => h) ?_ | refine NeedI.mk (fun h => h.2) ?_ | refine NeedI.mk (fun h => h.1) ?_ | exact Done.mk | refine Both.mk (fun _ => ?_) (fun _ => ?_) | refine Both2.mk (fun _ => ?_) ?_ | refine Need.mk (by with_reducible exact Nat.le_of_eq (Nat.zero_add _)) ?_)
      | ((with_reducible fail_if_success first | refine LoopVC.mk ?_ | refine Need.mk ?_ ?_ | refine CallVC.mk ?_ | refine LoopEnd.mk ?_ | refine Out.mk ?_ | show False | refine NeedI.mk ?_ ?_); conv => whnf)
end
end Lk.S02
namespace Lk.S02
open Go Lk Lk.C
/-- The number in i bytes, the least one first. -/
def pn (s : List UInt8) (k : Nat) : Nat → Nat
  | 0 => 0
  | i + 1 => pn s k i + (s.getD (k + i) 0).toNat * 2 ^ (8 * i)
def num (s : List UInt8) (k : Nat) : Nat := pn s k 4
theorem pn_lt (s : List UInt8) (k i : Nat) : pn s k i < 2 ^ (8 * i) := by
  induction i with
  | zero => exact Nat.one_pos
  | succ i ih =>
    show pn s k i + (s.getD (k + i) 0).toNat * 2 ^ (8 * i) < _
    have hb := (s.getD (k + i) 0).toNat_lt
    have e : 2 ^ (8 * (i + 1)) = 256 * 2 ^ (8 * i) := by rw [Nat.mul_add, Nat.pow_add, Nat.mul_comm]
    rw [e]
    have : (s.getD (k + i) 0).toNat * 2 ^ (8 * i) ≤ 255 * 2 ^ (8 * i) := Nat.mul_le_mul_right _ (by omega)
    omega
theorem num_lt (s : List UInt8) (k : Nat) : num s k < 4294967296 := pn_lt s k 4
theorem or_step {x b i : Nat} (hx : x < 2 ^ (8 * i)) (hb : b < 256) (hi : i < 4) : bitI .or .u32 (x : Int) (shlI .u32 (b : Int) (8 * (i : Int))) = ((x + b * 2 ^ (8 * i) : Nat) : Int) := by
  have hm : min (8 * (i : Int)).toNat IntKind.u32.bits = 8 * i := by simp [IntKind.bits]; omega
  have hp : 2 ^ (8 * i) ≤ 2 ^ 24 := Nat.pow_le_pow_right (by omega) (by omega)
  have h1 : b * 2 ^ (8 * i) ≤ 255 * 2 ^ (8 * i) := Nat.mul_le_mul_right _ (by omega)
  have h2 : b * 2 ^ (8 * i) < 4294967296 := by omega
  have h3 : x < 4294967296 := by omega
  have hs : shlI .u32 (b : Int) (8 * (i : Int)) = ((b * 2 ^ (8 * i) : Nat) : Int) := by
    rw [shlI_eq, hm, show (b : Int) * 2 ^ (8 * i) = ((b * 2 ^ (8 * i) : Nat) : Int) by push_cast; rfl, ← wrapI_eq, wrap_u32_nat h2]
  have h4 : x + b * 2 ^ (8 * i) < 4294967296 := by omega
  have ho : (BitVec.ofInt 32 (x : Int) ||| BitVec.ofInt 32 ((b * 2 ^ (8 * i) : Nat) : Int)).toNat = x + b * 2 ^ (8 * i) := by
    rw [BitVec.toNat_or, BitVec.ofInt_natCast, BitVec.ofInt_natCast, BitVec.toNat_ofNat, BitVec.toNat_ofNat, Nat.mod_eq_of_lt h3, Nat.mod_eq_of_lt h2, Nat.or_comm, ← Nat.shiftLeft_eq, ← Nat.shiftLeft_add_eq_or_of_lt hx, Nat.add_comm]
  rw [bitI_eq, hs]
  show IntKind.u32.wrap ((BitVec.ofInt 32 (x : Int) ||| BitVec.ofInt 32 ((b * 2 ^ (8 * i) : Nat) : Int)).toNat : Int) = _
  rw [ho, ← wrapI_eq, wrap_u32_nat h4]
section
variable {P : Program} {F : Nat → Nat}
set_option maxHeartbeats 8000000 in
set_option maxRecDepth 100000 in
theorem number_ok (hm : P.follows .mixedOrders = true) (hk : page_number_k P F) (s : List UInt8) (k : Nat) (hl : k + 4 ≤ s.length) (hs : s.length ≤ 1000000) : FnOk P (F 73) [.one (.str s), .one (.int .i64 k)] [.one (.im (.int .i64 (num s k)))] := by
  refine fnOk hm hk ?_
  repeat' first
    | (with_reducible first | refine NeedI.mk (fun h => h) ?_ | refine NeedI.mk (fun h => h.2) ?_ | refine NeedI.mk (fun h => h.1) ?_ | exact Done.mk | refine Both.mk (fun _ => ?_) (fun _ => ?_) | refine Both2.mk (fun _ => ?_) ?_ | refine Need.mk (by first | omega | with_reducible exact CEq.refl _) ?_)
    | ((with_reducible fail_if_success first | refine LoopVC.mk ?_ | refine Need.mk ?_ ?_ | refine CallVC.mk ?_ | refine LoopEnd.mk ?_ | refine Out.mk ?_ | show False | refine NeedI.mk ?_ ?_); conv => whnf)
  refine LoopVC.inv (fun i : Nat => i ≤ 4) (fun i => stL [(0, .c (.str s)), (1, .c (.int .i64 k)), (5, .c (.int .u32 (pn s k i))), (7, .c (.int .i64 i))] [])
    (fun i => 4 - i) 0 (Nat.zero_le _) (Le.of ⟨rfl, rfl, rfl, rfl, trivial⟩ trivial) ?_
  rintro Q hQ i hi
  repeat' first
    | (with_reducible first | refine NeedI.mk (fun h => h) ?_ | refine NeedI.mk (fun h => h.2) ?_ | refine NeedI.mk (fun h => h.1) ?_ | exact Done.mk | refine Both.mk (fun _ => ?_) (fun _ => ?_) | refine Both2.mk (fun _ => ?_) ?_ | refine Need.mk (by first | omega | with_reducible exact CEq.refl _ | (simp only [decide_eq_true_eq, decide_eq_false_iff_not, Bool.or_eq_true, Bool.and_eq_true, Bool.or_eq_false_iff, Int.toNat_natCast, addN_eq, cond_false, cond_true, rng] at *; omega) | exact ⟨rfl, rfl⟩) ?_)
    | ((with_reducible fail_if_success first | refine LoopVC.mk ?_ | refine Need.mk ?_ ?_ | refine CallVC.mk ?_ | refine LoopEnd.mk ?_ | refine Out.mk ?_ | show False | refine NeedI.mk ?_ ?_); conv => whnf)
  · rename_i h3
    simp only [decide_eq_true_eq] at h3
    have hb := (s.getD (k + i) 0).toNat_lt
    rw [show ((k : Int) + (i : Int)).toNat = k + i by omega]
    refine Need.mk (by simp only [rng]; omega) ?_
    repeat' first
      | (with_reducible first | refine NeedI.mk (fun h => h) ?_ | refine NeedI.mk (fun h => h.2) ?_ | refine NeedI.mk (fun h => h.1) ?_ | exact Done.mk | refine Both.mk (fun _ => ?_) (fun _ => ?_) | refine Both2.mk (fun _ => ?_) ?_ | refine Need.mk (by first | omega | with_reducible exact CEq.refl _ | (simp only [decide_eq_true_eq, decide_eq_false_iff_not, Bool.or_eq_true, Bool.and_eq_true, Bool.or_eq_false_iff, Int.toNat_natCast, addN_eq, cond_false, cond_true, rng] at *; omega) | exact ⟨rfl, rfl⟩) ?_)
      | ((with_reducible fail_if_success first | refine LoopVC.mk ?_ | refine Need.mk ?_ ?_ | refine CallVC.mk ?_ | refine LoopEnd.mk ?_ | refine Out.mk ?_ | show False | refine NeedI.mk ?_ ?_); conv => whnf)
    rw [or_step (pn_lt s k i) hb (by omega)]
    refine LoopEnd.mk ⟨i + 1, by omega, by omega, Le.of ⟨rfl, rfl, rfl, cI (by simp), trivial⟩ trivial⟩
  · rename_i h3
    simp only [decide_eq_false_iff_not] at h3
    obtain rfl : i = 4 := by omega
    have := num_lt s k
    refine Out.mk (hQ _ _ ?_)
    repeat' first
      | (with_reducible first | refine NeedI.mk (fun h => h) ?_ | refine NeedI.mk (fun h => h.2) ?_ | refine NeedI.mk (fun h => h.1) ?_ | exact Done.mk | refine Both.mk (fun _ => ?_) (fun _ => ?_) | refine Both2.mk (fun _ => ?_) ?_ | refine Need.mk (by first | omega | (simp only [rng]; omega)) ?_)
      | ((with_reducible fail_if_success first | refine LoopVC.mk ?_ | refine Need.mk ?_ ?_ | refine CallVC.mk ?_ | refine LoopEnd.mk ?_ | refine Out.mk ?_ | show False | refine NeedI.mk ?_ ?_); conv => whnf)
    refine Need.mk (by have := pn_lt s k 4; simp only [rng]; omega) ?_
    repeat' first
      | (with_reducible first | refine NeedI.mk (fun h => h) ?_ | refine NeedI.mk (fun h => h.2) ?_ | refine NeedI.mk (fun h => h.1) ?_ | exact Done.mk | refine Both.mk (fun _ => ?_) (fun _ => ?_) | refine Both2.mk (fun _ => ?_) ?_ | refine Need.mk (by with_reducible exact Nat.le_of_eq (Nat.zero_add _)) ?_)
      | ((with_reducible fail_if_success first | refine LoopVC.mk ?_ | refine Need.mk ?_ ?_ | refine CallVC.mk ?_ | refine LoopEnd.mk ?_ | refine Out.mk ?_ | show False | refine NeedI.mk ?_ ?_); conv => whnf)
    refine Need.mk (eI rfl) ?_
    repeat' first
      | (with_reducible first | refine NeedI.mk (fun h => h) ?_ | refine NeedI.mk (fun h => h.2) ?_ | refine NeedI.mk (fun h => h.1) ?_ | exact Done.mk | refine Both.mk (fun _ => ?_) (fun _ => ?_) | refine Both2.mk (fun _ => ?_) ?_ | refine Need.mk (by with_reducible exact Nat.le_of_eq (Nat.zero_add _)) ?_)
      | ((with_reducible fail_if_success first | refine LoopVC.mk ?_ | refine Need.mk ?_ ?_ | refine CallVC.mk ?_ | refine LoopEnd.mk ?_ | refine Out.mk ?_ | show False | refine NeedI.mk ?_ ?_); conv => whnf)
set_option maxHeartbeats 8000000 in
set_option maxRecDepth 100000 in
theorem noughts_ok (hm : P.follows .mixedOrders = true) (hk : ref02_Noughts_k P F) (s : List UInt8) (hs : s.length ≤ 1000000) : FnOk P (F 67) [.one (.str s)] [.one (.im (.bool (decide (∀ b ∈ s, b = 0))))] := by
  refine fnOk hm hk ?_
  repeat' first
    | (with_reducible first | refine NeedI.mk (fun h => h) ?_ | refine NeedI.mk (fun h => h.2) ?_ | refine NeedI.mk (fun h => h.1) ?_ | exact Done.mk | refine Both.mk (fun _ => ?_) (fun _ => ?_) | refine Both2.mk (fun _ => ?_) ?_ | refine Need.mk (by first | omega | with_reducible exact CEq.refl _) ?_)
    | ((with_reducible fail_if_success first | refine LoopVC.mk ?_ | refine Need.mk ?_ ?_ | refine CallVC.mk ?_ | refine LoopEnd.mk ?_ | refine Out.mk ?_ | show False | refine NeedI.mk ?_ ?_); conv => whnf)
  refine LoopVC.inv (fun i : Nat => i ≤ s.length ∧ ∀ j, j < i → s.getD j 0 = 0) (fun i => stL [(0, .c (.str s)), (3, .c (.int .i64 i))] [])
    (fun i => s.length - i) 0 ⟨Nat.zero_le _, fun j hj => by omega⟩ (Le.of ⟨rfl, rfl, trivial⟩ trivial) ?_
  rintro Q hQ i ⟨hi, hi2⟩
  repeat' first
    | (with_reducible first | refine NeedI.mk (fun h => h) ?_ | refine NeedI.mk (fun h => h.2) ?_ | refine NeedI.mk (fun h => h.1) ?_ | exact Done.mk | refine Both.mk (fun _ => ?_) (fun _ => ?_) | refine Both2.mk (fun _ => ?_) ?_ | refine Need.mk (by first | omega | with_reducible exact CEq.refl _ | (simp only [decide_eq_true_eq, decide_eq_false_iff_not, Bool.or_eq_true, Bool.and_eq_true, Bool.or_eq_false_iff, Int.toNat_natCast, addN_eq, cond_false, cond_true, rng] at *; omega) | exact ⟨rfl, rfl⟩) ?_)
    | ((with_reducible fail_if_success first | refine LoopVC.mk ?_ | refine Need.mk ?_ ?_ | refine CallVC.mk ?_ | refine LoopEnd.mk ?_ | refine Out.mk ?_ | show False | refine NeedI.mk ?_ ?_); conv => whnf)
  · rename_i h3 h4
    simp only [decide_eq_true_eq, Bool.not_eq_true', decide_eq_false_iff_not, Int.toNat_natCast] at h3 h4
    refine Out.mk (hQ _ _ ?_)
    repeat' first
      | (with_reducible first | refine NeedI.mk (fun h => h) ?_ | refine NeedI.mk (fun h => h.2) ?_ | refine NeedI.mk (fun h => h.1) ?_ | exact Done.mk | refine Both.mk (fun _ => ?_) (fun _ => ?_) | refine Both2.mk (fun _ => ?_) ?_ | refine Need.mk (by with_reducible exact Nat.le_of_eq (Nat.zero_add _)) ?_)
      | ((with_reducible fail_if_success first | refine LoopVC.mk ?_ | refine Need.mk ?_ ?_ | refine CallVC.mk ?_ | refine LoopEnd.mk ?_ | refine Out.mk ?_ | show False | refine NeedI.mk ?_ ?_); conv => whnf)
    refine Need.mk (eB ?_) ?_
    · symm; rw [decide_eq_false_iff_not]
      intro h
      apply h4
      have hil : i < s.length := by omega
      rw [List.getD_eq_getElem?_getD, List.getElem?_eq_getElem hil]
      show ((s[i]).toNat : Int) = 0
      rw [h _ (List.getElem_mem hil)]; rfl
    · repeat' first
        | (with_reducible first | refine NeedI.mk (fun h => h) ?_ | refine NeedI.mk (fun h => h.2) ?_ | refine NeedI.mk (fun h => h.1) ?_ | exact Done.mk | refine Both.mk (fun _ => ?_) (fun _ => ?_) | refine Both2.mk (fun _ => ?_) ?_ | refine Need.mk (by with_reducible exact Nat.le_of_eq (Nat.zero_add _)) ?_)
        | ((with_reducible fail_if_success first | refine LoopVC.mk ?_ | refine Need.mk ?_ ?_ | refine CallVC.mk ?_ | refine LoopEnd.mk ?_ | refine Out.mk ?_ | show False | refine NeedI.mk ?_ ?_); conv => whnf)
  · rename_i h3 h4
    simp only [decide_eq_true_eq, Bool.not_eq_false', Int.toNat_natCast] at h3 h4
    refine LoopEnd.mk ⟨i + 1, ⟨by omega, fun j hj => ?_⟩, by omega, Le.of ⟨rfl, cI (by simp), trivial⟩ trivial⟩
    rcases Nat.lt_or_ge j i with h | h
    · exact hi2 j h
    · obtain rfl : j = i := by omega
      apply UInt8.toNat_inj.1
      show _ = 0
      omega
  · rename_i h3
    simp only [decide_eq_false_iff_not] at h3
    obtain rfl : i = s.length := by omega
    refine Out.mk (hQ _ _ ?_)
    repeat' first
      | (with_reducible first | refine NeedI.mk (fun h => h) ?_ | refine NeedI.mk (fun h => h.2) ?_ | refine NeedI.mk (fun h => h.1) ?_ | exact Done.mk | refine Both.mk (fun _ => ?_) (fun _ => ?_) | refine Both2.mk (fun _ => ?_) ?_ | refine Need.mk (by with_reducible exact Nat.le_of_eq (Nat.zero_add _)) ?_)
      | ((with_reducible fail_if_success first | refine LoopVC.mk ?_ | refine Need.mk ?_ ?_ | refine CallVC.mk ?_ | refine LoopEnd.mk ?_ | refine Out.mk ?_ | show False | refine NeedI.mk ?_ ?_); conv => whnf)
    refine Need.mk (eB ?_) ?_
    · symm; rw [decide_eq_true_eq]
      intro b hb
      obtain ⟨j, hj, rfl⟩ := List.mem_iff_getElem.1 hb
      have := hi2 j hj
      rwa [List.getD_eq_getElem?_getD, List.getElem?_eq_getElem hj] at this
    · repeat' first
        | (with_reducible first | refine NeedI.mk (fun h => h) ?_ | refine NeedI.mk (fun h => h.2) ?_ | refine NeedI.mk (fun h => h.1) ?_ | exact Done.mk | refine Both.mk (fun _ => ?_) (fun _ => ?_) | refine Both2.mk (fun _ => ?_) ?_ | refine Need.mk (by with_reducible exact Nat.le_of_eq (Nat.zero_add _)) ?_)
        | ((with_reducible fail_if_success first | refine LoopVC.mk ?_ | refine Need.mk ?_ ?_ | refine CallVC.mk ?_ | refine LoopEnd.mk ?_ | refine Out.mk ?_ | show False | refine NeedI.mk ?_ ?_); conv => whnf)
end
end Lk.S02
namespace Lk.S02
open Go Lk Lk.C Lk.S01
def headP (p : Pg) : List UInt8 := four p.id.toNat ++ four p.version.toNat ++ four p.body.length
def tailP (p : Pg) : List UInt8 := p.body ++ List.replicate (16 - p.body.length) 0
def sumN (s : List UInt8) : Nat := (~~~ refS s).toNat
def putS (p : Pg) : List UInt8 := headP p ++ four (sumN (headP p ++ tailP p)) ++ tailP p
def put (p : Pg) : List UInt8 := if right p then putS p else []
def putE (p : Pg) : Int := if right p then 0 else 1
theorem four_len (n : Nat) : (four n).length = 4 := rfl
theorem headP_len (p : Pg) : (headP p).length = 12 := rfl
theorem tailP_len {p : Pg} (h : p.body.length ≤ 16) : (tailP p).length = 16 := by unfold tailP; simp; omega
theorem putS_len {p : Pg} (h : p.body.length ≤ 16) : (putS p).length = 32 := by
  unfold putS; rw [List.length_append, List.length_append, tailP_len h, headP_len, four_len]
theorem sumN_lt (s : List UInt8) : sumN s < 4294967296 := (~~~ refS s).isLt
section
variable {P : Program} {F : Nat → Nat}
structure KPage (P : Program) (F : Nat → Nat) : Prop where
  m : P.follows .mixedOrders = true
  sum : KSum P F
  right : page_Right_k P F
  put : page_Put_k P F
  take : page_Take_k P F
  four : page_four_k P F
  number : page_number_k P F
  rep : ∀ c : Nat, c ≤ 1000000 → FnOk P (F 49) [.one (.str [0]), .one (.int .i64 c)] [.one (.im (.str (List.replicate c 0)))]
structure KRef (P : Program) (F : Nat → Nat) : Prop where
  m : P.follows .mixedOrders = true
  sum : ref01_Sum_k P F
  right : ref02_Right_k P F
  put : ref02_Put_k P F
  take : ref02_Take_k P F
  four : ref02_four_k P F
  noughts : ref02_Noughts_k P F
set_option maxHeartbeats 8000000 in
set_option maxRecDepth 100000 in
theorem put_ok (K : KPage P F) (p : Pg) (hl : p.body.length ≤ 9223372036854775807) : FnOk P (F 58) [.many 3 (pgE p)] [.one (.im (.str (put p))), .one (.im (.int .i64 (putE p)))] := by
  refine fnOk K.m K.put ?_
  repeat' first
    | (with_reducible first | refine NeedI.mk (fun h => h) ?_ | refine NeedI.mk (fun h => h.2) ?_ | refine NeedI.mk (fun h => h.1) ?_ | exact Done.mk | refine Both.mk (fun _ => ?_) (fun _ => ?_) | refine Both2.mk (fun _ => ?_) ?_ | refine Need.mk (by first | omega | with_reducible exact CEq.refl _) ?_)
    | ((with_reducible fail_if_success first | refine LoopVC.mk ?_ | refine Need.mk ?_ ?_ | refine CallVC.mk ?_ | refine LoopEnd.mk ?_ | refine Out.mk ?_ | show False | refine NeedI.mk ?_ ?_); conv => whnf)
  refine CallVC.mk' (fun _ => right_ok K.m K.right p hl) (fun _ => .cons ((.many fun j hj => by (rcases (show j = 0 ∨ j = 1 ∨ j = 2 by omega) with rfl | rfl | rfl <;> exact CEq.refl _))) .nil) ?_
  repeat' first
    | (with_reducible first | refine NeedI.mk (fun h => h) ?_ | refine NeedI.mk (fun h => h.2) ?_ | refine NeedI.mk (fun h => h.1) ?_ | exact Done.mk | refine Both.mk (fun _ => ?_) (fun _ => ?_) | refine Both2.mk (fun _ => ?_) ?_ | refine Need.mk (by first | omega | with_reducible exact CEq.refl _) ?_)
    | ((with_reducible fail_if_success first | refine LoopVC.mk ?_ | refine Need.mk ?_ ?_ | refine CallVC.mk ?_ | refine LoopEnd.mk ?_ | refine Out.mk ?_ | show False | refine NeedI.mk ?_ ?_); conv => whnf)
  · rename_i h
    simp only [Bool.not_eq_true', decide_eq_false_iff_not] at h
    refine Need.mk (eS (by unfold put; exact (if_neg h).symm)) ?_
    repeat' first
      | (with_reducible first | refine NeedI.mk (fun h => h) ?_ | refine NeedI.mk (fun h => h.2) ?_ | refine NeedI.mk (fun h => h.1) ?_ | exact Done.mk | refine Both.mk (fun _ => ?_) (fun _ => ?_) | refine Both2.mk (fun _ => ?_) ?_ | refine Need.mk (by with_reducible exact Nat.le_of_eq (Nat.zero_add _)) ?_)
      | ((with_reducible fail_if_success first | refine LoopVC.mk ?_ | refine Need.mk ?_ ?_ | refine CallVC.mk ?_ | refine LoopEnd.mk ?_ | refine Out.mk ?_ | show False | refine NeedI.mk ?_ ?_); conv => whnf)
    refine Need.mk (eI (by unfold putE; exact (if_neg h).symm)) ?_
    repeat' first
      | (with_reducible first | refine NeedI.mk (fun h => h) ?_ | refine NeedI.mk (fun h => h.2) ?_ | refine NeedI.mk (fun h => h.1) ?_ | exact Done.mk | refine Both.mk (fun _ => ?_) (fun _ => ?_) | refine Both2.mk (fun _ => ?_) ?_ | refine Need.mk (by with_reducible exact Nat.le_of_eq (Nat.zero_add _)) ?_)
      | ((with_reducible fail_if_success first | refine LoopVC.mk ?_ | refine Need.mk ?_ ?_ | refine CallVC.mk ?_ | refine LoopEnd.mk ?_ | refine Out.mk ?_ | show False | refine NeedI.mk ?_ ?_); conv => whnf)
  · rename_i h
    simp only [Bool.not_eq_false', decide_eq_true_eq] at h
    have hb := h.2.2
    have e1 : (p.id.toNat : Int) = p.id := by have := h.1; omega
    have e2 : (p.version.toNat : Int) = p.version := by have := h.2.1; omega
    have l1 : p.id.toNat < 4294967296 := by have := h.1; omega
    have l2 : p.version.toNat < 4294967296 := by have := h.2.1; omega
    refine CallVC.mk' (fun _ => four_ok K.m K.four p.id.toNat l1) (fun _ => .cons (.one (eI e1.symm)) .nil) ?_
    repeat' first
      | (with_reducible first | refine NeedI.mk (fun h => h) ?_ | refine NeedI.mk (fun h => h.2) ?_ | refine NeedI.mk (fun h => h.1) ?_ | exact Done.mk | refine Both.mk (fun _ => ?_) (fun _ => ?_) | refine Both2.mk (fun _ => ?_) ?_ | refine Need.mk (by first | omega | with_reducible exact CEq.refl _) ?_)
      | ((with_reducible fail_if_success first | refine LoopVC.mk ?_ | refine Need.mk ?_ ?_ | refine CallVC.mk ?_ | refine LoopEnd.mk ?_ | refine Out.mk ?_ | show False | refine NeedI.mk ?_ ?_); conv => whnf)
    refine CallVC.mk' (fun _ => four_ok K.m K.four p.version.toNat l2) (fun _ => .cons (.one (eI e2.symm)) .nil) ?_
    repeat' first
      | (with_reducible first | refine NeedI.mk (fun h => h) ?_ | refine NeedI.mk (fun h => h.2) ?_ | refine NeedI.mk (fun h => h.1) ?_ | exact Done.mk | refine Both.mk (fun _ => ?_) (fun _ => ?_) | refine Both2.mk (fun _ => ?_) ?_ | refine Need.mk (by first | omega | with_reducible exact CEq.refl _ | (simp only [List.length_append, four_len, List.length_replicate, rng]; omega)) ?_)
      | ((with_reducible fail_if_success first | refine LoopVC.mk ?_ | refine Need.mk ?_ ?_ | refine CallVC.mk ?_ | refine LoopEnd.mk ?_ | refine Out.mk ?_ | show False | refine NeedI.mk ?_ ?_); conv => whnf)
    refine CallVC.mk' (fun _ => four_ok K.m K.four p.body.length (by omega)) (fun _ => .cons (.one (CEq.refl _)) .nil) ?_
    repeat' first
      | (with_reducible first | refine NeedI.mk (fun h => h) ?_ | refine NeedI.mk (fun h => h.2) ?_ | refine NeedI.mk (fun h => h.1) ?_ | exact Done.mk | refine Both.mk (fun _ => ?_) (fun _ => ?_) | refine Both2.mk (fun _ => ?_) ?_ | refine Need.mk (by first | omega | with_reducible exact CEq.refl _ | (simp only [List.length_append, four_len, List.length_replicate, rng]; omega)) ?_)
      | ((with_reducible fail_if_success first | refine LoopVC.mk ?_ | refine Need.mk ?_ ?_ | refine CallVC.mk ?_ | refine LoopEnd.mk ?_ | refine Out.mk ?_ | show False | refine NeedI.mk ?_ ?_); conv => whnf)
    refine CallVC.mk' (fun _ => K.rep (16 - p.body.length) (by omega)) (fun _ => .cons (.one (CEq.refl _)) (.cons (.one (eI (by omega))) .nil)) ?_
    repeat' first
      | (with_reducible first | refine NeedI.mk (fun h => h) ?_ | refine NeedI.mk (fun h => h.2) ?_ | refine NeedI.mk (fun h => h.1) ?_ | exact Done.mk | refine Both.mk (fun _ => ?_) (fun _ => ?_) | refine Both2.mk (fun _ => ?_) ?_ | refine Need.mk (by first | omega | with_reducible exact CEq.refl _ | (simp only [List.length_append, four_len, List.length_replicate, rng]; omega)) ?_)
      | ((with_reducible fail_if_success first | refine LoopVC.mk ?_ | refine Need.mk ?_ ?_ | refine CallVC.mk ?_ | refine LoopEnd.mk ?_ | refine Out.mk ?_ | show False | refine NeedI.mk ?_ ?_); conv => whnf)
    refine CallVC.mk' (fun _ => table_ok K.sum) (fun _ => .nil) ?_
    repeat' first
      | (with_reducible first | refine NeedI.mk (fun h => h) ?_ | refine NeedI.mk (fun h => h.2) ?_ | refine NeedI.mk (fun h => h.1) ?_ | exact Done.mk | refine Both.mk (fun _ => ?_) (fun _ => ?_) | refine Both2.mk (fun _ => ?_) ?_ | refine Need.mk (by first | omega | with_reducible exact CEq.refl _ | (simp only [List.length_append, four_len, List.length_replicate, rng]; omega)) ?_)
      | ((with_reducible fail_if_success first | refine LoopVC.mk ?_ | refine Need.mk ?_ ?_ | refine CallVC.mk ?_ | refine LoopEnd.mk ?_ | refine Out.mk ?_ | show False | refine NeedI.mk ?_ ?_); conv => whnf)
    have hx := tailP_len hb
    refine CallVC.mk' (fun _ => sum_ok K.sum tabT (headP p ++ tailP p) (by rw [List.length_append, headP_len, hx]; omega)) (fun _ => .cons (.one (CEq.refl _)) (.cons (.one (CEq.refl _)) .nil)) ?_
    rw [sum_ref]
    repeat' first
      | (with_reducible first | refine NeedI.mk (fun h => h) ?_ | refine NeedI.mk (fun h => h.2) ?_ | refine NeedI.mk (fun h => h.1) ?_ | exact Done.mk | refine Both.mk (fun _ => ?_) (fun _ => ?_) | refine Both2.mk (fun _ => ?_) ?_ | refine Need.mk (by first | omega | with_reducible exact CEq.refl _ | (simp only [List.length_append, four_len, List.length_replicate, rng]; omega)) ?_)
      | ((with_reducible fail_if_success first | refine LoopVC.mk ?_ | refine Need.mk ?_ ?_ | refine CallVC.mk ?_ | refine LoopEnd.mk ?_ | refine Out.mk ?_ | show False | refine NeedI.mk ?_ ?_); conv => whnf)
    refine CallVC.mk' (fun _ => four_ok K.m K.four (sumN (headP p ++ tailP p)) (sumN_lt _)) (fun _ => .cons (.one (CEq.refl _)) .nil) ?_
    repeat' first
      | (with_reducible first | refine NeedI.mk (fun h => h) ?_ | refine NeedI.mk (fun h => h.2) ?_ | refine NeedI.mk (fun h => h.1) ?_ | exact Done.mk | refine Both.mk (fun _ => ?_) (fun _ => ?_) | refine Both2.mk (fun _ => ?_) ?_ | refine Need.mk (by first | omega | with_reducible exact CEq.refl _ | (simp only [List.length_append, four_len, List.length_replicate, rng]; omega)) ?_)
      | ((with_reducible fail_if_success first | refine LoopVC.mk ?_ | refine Need.mk ?_ ?_ | refine CallVC.mk ?_ | refine LoopEnd.mk ?_ | refine Out.mk ?_ | show False | refine NeedI.mk ?_ ?_); conv => whnf)
    refine Need.mk (eS (by unfold put; rw [if_pos h]; rfl)) ?_
    repeat' first
      | (with_reducible first | refine NeedI.mk (fun h => h) ?_ | refine NeedI.mk (fun h => h.2) ?_ | refine NeedI.mk (fun h => h.1) ?_ | exact Done.mk | refine Both.mk (fun _ => ?_) (fun _ => ?_) | refine Both2.mk (fun _ => ?_) ?_ | refine Need.mk (by with_reducible exact Nat.le_of_eq (Nat.zero_add _)) ?_)
      | ((with_reducible fail_if_success first | refine LoopVC.mk ?_ | refine Need.mk ?_ ?_ | refine CallVC.mk ?_ | refine LoopEnd.mk ?_ | refine Out.mk ?_ | show False | refine NeedI.mk ?_ ?_); conv => whnf)
    refine Need.mk (eI (by unfold putE; rw [if_pos h])) ?_
    repeat' first
      | (with_reducible first | refine NeedI.mk (fun h => h) ?_ | refine NeedI.mk (fun h => h.2) ?_ | refine NeedI.mk (fun h => h.1) ?_ | exact Done.mk | refine Both.mk (fun _ => ?_) (fun _ => ?_) | refine Both2.mk (fun _ => ?_) ?_ | refine Need.mk (by with_reducible exact Nat.le_of_eq (Nat.zero_add _)) ?_)
      | ((with_reducible fail_if_success first | refine LoopVC.mk ?_ | refine Need.mk ?_ ?_ | refine CallVC.mk ?_ | refine LoopEnd.mk ?_ | refine Out.mk ?_ | show False | refine NeedI.mk ?_ ?_); conv => whnf)
set_option maxHeartbeats 8000000 in
set_option maxRecDepth 100000 in
theorem rput_ok (K : KRef P F) (p : Pg) (h : right p) : FnOk P (F 62) [.many 3 (pgE p)] [.one (.im (.str (putS p)))] := by
  refine fnOk K.m K.put ?_
  have hb := h.2.2
  have e1 : (p.id.toNat : Int) = p.id := by have := h.1; omega
  have e2 : (p.version.toNat : Int) = p.version := by have := h.2.1; omega
  have l1 : p.id.toNat < 4294967296 := by have := h.1; omega
  have l2 : p.version.toNat < 4294967296 := by have := h.2.1; omega
  repeat' first
    | (with_reducible first | refine NeedI.mk (fun h => h) ?_ | refine NeedI.mk (fun h => h.2) ?_ | refine NeedI.mk (fun h => h.1) ?_ | exact Done.mk | refine Both.mk (fun _ => ?_) (fun _ => ?_) | refine Both2.mk (fun _ => ?_) ?_ | refine Need.mk (by first | omega | with_reducible exact CEq.refl _) ?_)
    | ((with_reducible fail_if_success first | refine LoopVC.mk ?_ | refine Need.mk ?_ ?_ | refine CallVC.mk ?_ | refine LoopEnd.mk ?_ | refine Out.mk ?_ | show False | refine NeedI.mk ?_ ?_); conv => whnf)
  refine CallVC.mk' (fun _ => rfour_ok K.m K.four p.id.toNat l1) (fun _ => .cons (.one (eI e1.symm)) .nil) ?_
  repeat' first
    | (with_reducible first | refine NeedI.mk (fun h => h) ?_ | refine NeedI.mk (fun h => h.2) ?_ | refine NeedI.mk (fun h => h.1) ?_ | exact Done.mk | refine Both.mk (fun _ => ?_) (fun _ => ?_) | refine Both2.mk (fun _ => ?_) ?_ | refine Need.mk (by first | omega | with_reducible exact CEq.refl _) ?_)
    | ((with_reducible fail_if_success first | refine LoopVC.mk ?_ | refine Need.mk ?_ ?_ | refine CallVC.mk ?_ | refine LoopEnd.mk ?_ | refine Out.mk ?_ | show False | refine NeedI.mk ?_ ?_); conv => whnf)
  refine CallVC.mk' (fun _ => rfour_ok K.m K.four p.version.toNat l2) (fun _ => .cons (.one (eI e2.symm)) .nil) ?_
  repeat' first
    | (with_reducible first | refine NeedI.mk (fun h => h) ?_ | refine NeedI.mk (fun h => h.2) ?_ | refine NeedI.mk (fun h => h.1) ?_ | exact Done.mk | refine Both.mk (fun _ => ?_) (fun _ => ?_) | refine Both2.mk (fun _ => ?_) ?_ | refine Need.mk (by first | omega | with_reducible exact CEq.refl _ | (simp only [List.length_append, four_len, List.length_replicate, rng]; omega)) ?_)
    | ((with_reducible fail_if_success first | refine LoopVC.mk ?_ | refine Need.mk ?_ ?_ | refine CallVC.mk ?_ | refine LoopEnd.mk ?_ | refine Out.mk ?_ | show False | refine NeedI.mk ?_ ?_); conv => whnf)
  refine CallVC.mk' (fun _ => rfour_ok K.m K.four p.body.length (by omega)) (fun _ => .cons (.one (CEq.refl _)) .nil) ?_
  repeat' first
    | (with_reducible first | refine NeedI.mk (fun h => h) ?_ | refine NeedI.mk (fun h => h.2) ?_ | refine NeedI.mk (fun h => h.1) ?_ | exact Done.mk | refine Both.mk (fun _ => ?_) (fun _ => ?_) | refine Both2.mk (fun _ => ?_) ?_ | refine Need.mk (by first | omega | with_reducible exact CEq.refl _ | (simp only [List.length_append, four_len, List.length_replicate, rng]; omega)) ?_)
    | ((with_reducible fail_if_success first | refine LoopVC.mk ?_ | refine Need.mk ?_ ?_ | refine CallVC.mk ?_ | refine LoopEnd.mk ?_ | refine Out.mk ?_ | show False | refine NeedI.mk ?_ ?_); conv => whnf)
  refine LoopVC.inv (fun i : Nat => p.body.length + i ≤ 16) (fun i => stL [(3, .c (.str (headP p))), (4, .c (.str (p.body ++ List.replicate i 0)))] [])
    (fun i => 16 - i) 0 hb (Le.of ⟨rfl, cS (by simp), trivial⟩ trivial) ?_
  rintro Q hQ i hi
  repeat' first
    | (with_reducible first | refine NeedI.mk (fun h => h) ?_ | refine NeedI.mk (fun h => h.2) ?_ | refine NeedI.mk (fun h => h.1) ?_ | exact Done.mk | refine Both.mk (fun _ => ?_) (fun _ => ?_) | refine Both2.mk (fun _ => ?_) ?_ | refine Need.mk (by first | omega | with_reducible exact CEq.refl _ | (simp only [List.length_append, four_len, List.length_replicate, rng]; omega)) ?_)
    | ((with_reducible fail_if_success first | refine LoopVC.mk ?_ | refine Need.mk ?_ ?_ | refine CallVC.mk ?_ | refine LoopEnd.mk ?_ | refine Out.mk ?_ | show False | refine NeedI.mk ?_ ?_); conv => whnf)
  · rename_i h3
    simp only [decide_eq_true_eq, List.length_append, List.length_replicate] at h3
    refine Need.mk (fun k hk => by obtain rfl : k = 0 := (by omega); exact trivial) ?_
    repeat' first
      | (with_reducible first | refine NeedI.mk (fun h => h) ?_ | refine NeedI.mk (fun h => h.2) ?_ | refine NeedI.mk (fun h => h.1) ?_ | exact Done.mk | refine Both.mk (fun _ => ?_) (fun _ => ?_) | refine Both2.mk (fun _ => ?_) ?_ | refine Need.mk (by first | omega | with_reducible exact CEq.refl _ | (simp only [List.length_append, four_len, List.length_replicate, headP_len, rng]; omega)) ?_)
      | ((with_reducible fail_if_success first | refine LoopVC.mk ?_ | refine Need.mk ?_ ?_ | refine CallVC.mk ?_ | refine LoopEnd.mk ?_ | refine Out.mk ?_ | show False | refine NeedI.mk ?_ ?_); conv => whnf)
    refine Need.mk (by rw [List.length_append, List.length_replicate]; show p.body.length + i + 1 ≤ _; omega) ?_
    repeat' first
      | (with_reducible first | refine NeedI.mk (fun h => h) ?_ | refine NeedI.mk (fun h => h.2) ?_ | refine NeedI.mk (fun h => h.1) ?_ | exact Done.mk | refine Both.mk (fun _ => ?_) (fun _ => ?_) | refine Both2.mk (fun _ => ?_) ?_ | refine Need.mk (by first | omega | with_reducible exact CEq.refl _ | (simp only [List.length_append, four_len, List.length_replicate, headP_len, rng]; omega)) ?_)
      | ((with_reducible fail_if_success first | refine LoopVC.mk ?_ | refine Need.mk ?_ ?_ | refine CallVC.mk ?_ | refine LoopEnd.mk ?_ | refine Out.mk ?_ | show False | refine NeedI.mk ?_ ?_); conv => whnf)
    refine LoopEnd.mk ⟨i + 1, by omega, by omega, Le.of ⟨rfl, cS ?_, trivial⟩ trivial⟩
    rw [List.replicate_succ', ← List.append_assoc]
    rfl
  · rename_i h3
    simp only [decide_eq_false_iff_not, List.length_append, List.length_replicate] at h3
    have hi16 : i = 16 - p.body.length := by omega
    refine Out.mk (hQ _ _ ?_)
    rw [hi16]
    have hx := tailP_len hb
    repeat' first
      | (with_reducible first | refine NeedI.mk (fun h => h) ?_ | refine NeedI.mk (fun h => h.2) ?_ | refine NeedI.mk (fun h => h.1) ?_ | exact Done.mk | refine Both.mk (fun _ => ?_) (fun _ => ?_) | refine Both2.mk (fun _ => ?_) ?_ | refine Need.mk (by first | omega | with_reducible exact CEq.refl _ | (simp only [List.length_append, four_len, List.length_replicate, headP_len, rng]; omega)) ?_)
      | ((with_reducible fail_if_success first | refine LoopVC.mk ?_ | refine Need.mk ?_ ?_ | refine CallVC.mk ?_ | refine LoopEnd.mk ?_ | refine Out.mk ?_ | show False | refine NeedI.mk ?_ ?_); conv => whnf)
    refine CallVC.mk' (fun _ => ref_ok K.m K.sum (headP p ++ tailP p) (by rw [List.length_append, headP_len, hx]; omega)) (fun _ => .cons (.one (CEq.refl _)) .nil) ?_
    repeat' first
      | (with_reducible first | refine NeedI.mk (fun h => h) ?_ | refine NeedI.mk (fun h => h.2) ?_ | refine NeedI.mk (fun h => h.1) ?_ | exact Done.mk | refine Both.mk (fun _ => ?_) (fun _ => ?_) | refine Both2.mk (fun _ => ?_) ?_ | refine Need.mk (by first | omega | with_reducible exact CEq.refl _ | (simp only [List.length_append, four_len, List.length_replicate, headP_len, rng]; omega)) ?_)
      | ((with_reducible fail_if_success first | refine LoopVC.mk ?_ | refine Need.mk ?_ ?_ | refine CallVC.mk ?_ | refine LoopEnd.mk ?_ | refine Out.mk ?_ | show False | refine NeedI.mk ?_ ?_); conv => whnf)
    refine CallVC.mk' (fun _ => rfour_ok K.m K.four (sumN (headP p ++ tailP p)) (sumN_lt _)) (fun _ => .cons (.one (CEq.refl _)) .nil) ?_
    repeat' first
      | (with_reducible first | refine NeedI.mk (fun h => h) ?_ | refine NeedI.mk (fun h => h.2) ?_ | refine NeedI.mk (fun h => h.1) ?_ | exact Done.mk | refine Both.mk (fun _ => ?_) (fun _ => ?_) | refine Both2.mk (fun _ => ?_) ?_ | refine Need.mk (by first | omega | with_reducible exact CEq.refl _ | (simp only [List.length_append, four_len, List.length_replicate, headP_len, rng]; omega)) ?_)
      | ((with_reducible fail_if_success first | refine LoopVC.mk ?_ | refine Need.mk ?_ ?_ | refine CallVC.mk ?_ | refine LoopEnd.mk ?_ | refine Out.mk ?_ | show False | refine NeedI.mk ?_ ?_); conv => whnf)
    refine Need.mk (eS rfl) ?_
    repeat' first
      | (with_reducible first | refine NeedI.mk (fun h => h) ?_ | refine NeedI.mk (fun h => h.2) ?_ | refine NeedI.mk (fun h => h.1) ?_ | exact Done.mk | refine Both.mk (fun _ => ?_) (fun _ => ?_) | refine Both2.mk (fun _ => ?_) ?_ | refine Need.mk (by with_reducible exact Nat.le_of_eq (Nat.zero_add _)) ?_)
      | ((with_reducible fail_if_success first | refine LoopVC.mk ?_ | refine Need.mk ?_ ?_ | refine CallVC.mk ?_ | refine LoopEnd.mk ?_ | refine Out.mk ?_ | show False | refine NeedI.mk ?_ ?_); conv => whnf)
end
end Lk.S02
namespace Lk.S02
open Go Lk Lk.C Lk.S01
def cut (s : List UInt8) : Pg := ⟨num s 0, num s 4, (s.drop 16).take (num s 8)⟩
def took (s : List UInt8) : Pg × Int :=
  if s.length ≠ 32 then (default, 2) else if s = List.replicate 32 0 then (default, 3) else if 16 < num s 8 then (default, 9)
  else if right (cut s) ∧ putS (cut s) = s then (cut s, 0) else (default, 9)
theorem cut_body (s : List UInt8) : List.drop (Int.toNat 16) (List.take (16 + (num s 8 : Int)).toNat s) = (cut s).body := by
  rw [show (16 + (num s 8 : Int)).toNat = 16 + num s 8 by omega]
  show List.drop 16 (List.take (16 + num s 8) s) = (s.drop 16).take (num s 8)
  rw [List.drop_take, Nat.add_sub_cancel_left]
theorem num_eq (s : List UInt8) (k : Nat) : ((s.getD k 0).toNat : Int) + 256 * ((s.getD (k + 1) 0).toNat : Int) + 65536 * ((s.getD (k + 2) 0).toNat : Int) + 16777216 * ((s.getD (k + 3) 0).toNat : Int) = (num s k : Int) := by
  show _ = ((0 + (s.getD k 0).toNat * 2 ^ 0 + (s.getD (k + 1) 0).toNat * 2 ^ 8 + (s.getD (k + 2) 0).toNat * 2 ^ 16 + (s.getD (k + 3) 0).toNat * 2 ^ 24 : Nat) : Int)
  omega
theorem cut_len {s : List UInt8} (hs : s.length ≤ 1000000) : (cut s).body.length ≤ 9223372036854775807 := by
  unfold cut
  show ((s.drop 16).take _).length ≤ _
  rw [List.length_take, List.length_drop]
  omega
theorem took_len {s : List UInt8} (h : s.length ≠ 32) : took s = (default, 2) := if_pos h
theorem took_nought {s : List UInt8} (h : s.length = 32) (h2 : s = List.replicate 32 0) : took s = (default, 3) := by unfold took; rw [if_neg (fun x => x h), if_pos h2]
theorem took_long {s : List UInt8} (h : s.length = 32) (h2 : s ≠ List.replicate 32 0) (h3 : 16 < num s 8) : took s = (default, 9) := by unfold took; rw [if_neg (fun x => x h), if_neg h2, if_pos h3]
theorem took_bad {s : List UInt8} (h : s.length = 32) (h2 : s ≠ List.replicate 32 0) (h3 : ¬ 16 < num s 8) (h4 : ¬ (right (cut s) ∧ putS (cut s) = s)) : took s = (default, 9) := by
  unfold took; rw [if_neg (fun x => x h), if_neg h2, if_neg h3, if_neg h4]
theorem took_good {s : List UInt8} (h : s.length = 32) (h2 : s ≠ List.replicate 32 0) (h3 : ¬ 16 < num s 8) (h4 : right (cut s) ∧ putS (cut s) = s) : took s = (cut s, 0) := by
  unfold took; rw [if_neg (fun x => x h), if_neg h2, if_neg h3, if_pos h4]
section
variable {P : Program} {F : Nat → Nat}
set_option maxHeartbeats 8000000 in
set_option maxRecDepth 100000 in
theorem take_ok (K : KPage P F) (s : List UInt8) (hs : s.length ≤ 1000000) : FnOk P (F 61) [.one (.str s)] [.many 3 (fun j => .im (pgE (took s).1 j)), .one (.im (.int .i64 (took s).2))] := by
  refine fnOk K.m K.take ?_
  repeat' first
    | (with_reducible first | refine NeedI.mk (fun h => h) ?_ | refine NeedI.mk (fun h => h.2) ?_ | refine NeedI.mk (fun h => h.1) ?_ | exact Done.mk | refine Both.mk (fun _ => ?_) (fun _ => ?_) | refine Both2.mk (fun _ => ?_) ?_ | refine Need.mk (by first | omega | with_reducible exact CEq.refl _) ?_)
    | ((with_reducible fail_if_success first | refine LoopVC.mk ?_ | refine Need.mk ?_ ?_ | refine CallVC.mk ?_ | refine LoopEnd.mk ?_ | refine Out.mk ?_ | show False | refine NeedI.mk ?_ ?_); conv => whnf)
  · rename_i h
    simp only [Bool.not_eq_true', decide_eq_false_iff_not] at h
    rw [took_len (by omega)]
    repeat' first
      | (with_reducible first | refine NeedI.mk (fun h => h) ?_ | refine NeedI.mk (fun h => h.2) ?_ | refine NeedI.mk (fun h => h.1) ?_ | exact Done.mk | refine Both.mk (fun _ => ?_) (fun _ => ?_) | refine Both2.mk (fun _ => ?_) ?_ | refine Need.mk (by with_reducible exact Nat.le_of_eq (Nat.zero_add _)) ?_)
      | ((with_reducible fail_if_success first | refine LoopVC.mk ?_ | refine Need.mk ?_ ?_ | refine CallVC.mk ?_ | refine LoopEnd.mk ?_ | refine Out.mk ?_ | show False | refine NeedI.mk ?_ ?_); conv => whnf)
    refine Need.mk (CEq.refl _) ?_
    repeat' first
      | (with_reducible first | refine NeedI.mk (fun h => h) ?_ | refine NeedI.mk (fun h => h.2) ?_ | refine NeedI.mk (fun h => h.1) ?_ | exact Done.mk | refine Both.mk (fun _ => ?_) (fun _ => ?_) | refine Both2.mk (fun _ => ?_) ?_ | refine Need.mk (by with_reducible exact Nat.le_of_eq (Nat.zero_add _)) ?_)
      | ((with_reducible fail_if_success first | refine LoopVC.mk ?_ | refine Need.mk ?_ ?_ | refine CallVC.mk ?_ | refine LoopEnd.mk ?_ | refine Out.mk ?_ | show False | refine NeedI.mk ?_ ?_); conv => whnf)
    refine Need.mk (CEq.refl _) ?_
    repeat' first
      | (with_reducible first | refine NeedI.mk (fun h => h) ?_ | refine NeedI.mk (fun h => h.2) ?_ | refine NeedI.mk (fun h => h.1) ?_ | exact Done.mk | refine Both.mk (fun _ => ?_) (fun _ => ?_) | refine Both2.mk (fun _ => ?_) ?_ | refine Need.mk (by with_reducible exact Nat.le_of_eq (Nat.zero_add _)) ?_)
      | ((with_reducible fail_if_success first | refine LoopVC.mk ?_ | refine Need.mk ?_ ?_ | refine CallVC.mk ?_ | refine LoopEnd.mk ?_ | refine Out.mk ?_ | show False | refine NeedI.mk ?_ ?_); conv => whnf)
    refine Need.mk (CEq.refl _) ?_
    repeat' first
      | (with_reducible first | refine NeedI.mk (fun h => h) ?_ | refine NeedI.mk (fun h => h.2) ?_ | refine NeedI.mk (fun h => h.1) ?_ | exact Done.mk | refine Both.mk (fun _ => ?_) (fun _ => ?_) | refine Both2.mk (fun _ => ?_) ?_ | refine Need.mk (by with_reducible exact Nat.le_of_eq (Nat.zero_add _)) ?_)
      | ((with_reducible fail_if_success first | refine LoopVC.mk ?_ | refine Need.mk ?_ ?_ | refine CallVC.mk ?_ | refine LoopEnd.mk ?_ | refine Out.mk ?_ | show False | refine NeedI.mk ?_ ?_); conv => whnf)
    refine Need.mk (CEq.refl _) ?_
    repeat' first
      | (with_reducible first | refine NeedI.mk (fun h => h) ?_ | refine NeedI.mk (fun h => h.2) ?_ | refine NeedI.mk (fun h => h.1) ?_ | exact Done.mk | refine Both.mk (fun _ => ?_) (fun _ => ?_) | refine Both2.mk (fun _ => ?_) ?_ | refine Need.mk (by with_reducible exact Nat.le_of_eq (Nat.zero_add _)) ?_)
      | ((with_reducible fail_if_success first | refine LoopVC.mk ?_ | refine Need.mk ?_ ?_ | refine CallVC.mk ?_ | refine LoopEnd.mk ?_ | refine Out.mk ?_ | show False | refine NeedI.mk ?_ ?_); conv => whnf)
  · rename_i h
    simp only [Bool.not_eq_false', decide_eq_true_eq] at h
    have h : s.length = 32 := by omega
    refine CallVC.mk' (fun _ => K.rep 32 (by omega)) (fun _ => .cons (.one (CEq.refl _)) (.cons (.one (CEq.refl _)) .nil)) ?_
    repeat' first
      | (with_reducible first | refine NeedI.mk (fun h => h) ?_ | refine NeedI.mk (fun h => h.2) ?_ | refine NeedI.mk (fun h => h.1) ?_ | exact Done.mk | refine Both.mk (fun _ => ?_) (fun _ => ?_) | refine Both2.mk (fun _ => ?_) ?_ | refine Need.mk (by first | omega | with_reducible exact CEq.refl _) ?_)
      | ((with_reducible fail_if_success first | refine LoopVC.mk ?_ | refine Need.mk ?_ ?_ | refine CallVC.mk ?_ | refine LoopEnd.mk ?_ | refine Out.mk ?_ | show False | refine NeedI.mk ?_ ?_); conv => whnf)
    · rename_i h2
      simp only [decide_eq_true_eq] at h2
      rw [took_nought h h2]
      repeat' first
        | (with_reducible first | refine NeedI.mk (fun h => h) ?_ | refine NeedI.mk (fun h => h.2) ?_ | refine NeedI.mk (fun h => h.1) ?_ | exact Done.mk | refine Both.mk (fun _ => ?_) (fun _ => ?_) | refine Both2.mk (fun _ => ?_) ?_ | refine Need.mk (by with_reducible exact Nat.le_of_eq (Nat.zero_add _)) ?_)
        | ((with_reducible fail_if_success first | refine LoopVC.mk ?_ | refine Need.mk ?_ ?_ | refine CallVC.mk ?_ | refine LoopEnd.mk ?_ | refine Out.mk ?_ | show False | refine NeedI.mk ?_ ?_); conv => whnf)
      refine Need.mk (CEq.refl _) ?_
      repeat' first
        | (with_reducible first | refine NeedI.mk (fun h => h) ?_ | refine NeedI.mk (fun h => h.2) ?_ | refine NeedI.mk (fun h => h.1) ?_ | exact Done.mk | refine Both.mk (fun _ => ?_) (fun _ => ?_) | refine Both2.mk (fun _ => ?_) ?_ | refine Need.mk (by with_reducible exact Nat.le_of_eq (Nat.zero_add _)) ?_)
        | ((with_reducible fail_if_success first | refine LoopVC.mk ?_ | refine Need.mk ?_ ?_ | refine CallVC.mk ?_ | refine LoopEnd.mk ?_ | refine Out.mk ?_ | show False | refine NeedI.mk ?_ ?_); conv => whnf)
      refine Need.mk (CEq.refl _) ?_
      repeat' first
        | (with_reducible first | refine NeedI.mk (fun h => h) ?_ | refine NeedI.mk (fun h => h.2) ?_ | refine NeedI.mk (fun h => h.1) ?_ | exact Done.mk | refine Both.mk (fun _ => ?_) (fun _ => ?_) | refine Both2.mk (fun _ => ?_) ?_ | refine Need.mk (by with_reducible exact Nat.le_of_eq (Nat.zero_add _)) ?_)
        | ((with_reducible fail_if_success first | refine LoopVC.mk ?_ | refine Need.mk ?_ ?_ | refine CallVC.mk ?_ | refine LoopEnd.mk ?_ | refine Out.mk ?_ | show False | refine NeedI.mk ?_ ?_); conv => whnf)
      refine Need.mk (CEq.refl _) ?_
      repeat' first
        | (with_reducible first | refine NeedI.mk (fun h => h) ?_ | refine NeedI.mk (fun h => h.2) ?_ | refine NeedI.mk (fun h => h.1) ?_ | exact Done.mk | refine Both.mk (fun _ => ?_) (fun _ => ?_) | refine Both2.mk (fun _ => ?_) ?_ | refine Need.mk (by with_reducible exact Nat.le_of_eq (Nat.zero_add _)) ?_)
        | ((with_reducible fail_if_success first | refine LoopVC.mk ?_ | refine Need.mk ?_ ?_ | refine CallVC.mk ?_ | refine LoopEnd.mk ?_ | refine Out.mk ?_ | show False | refine NeedI.mk ?_ ?_); conv => whnf)
      refine Need.mk (CEq.refl _) ?_
      repeat' first
        | (with_reducible first | refine NeedI.mk (fun h => h) ?_ | refine NeedI.mk (fun h => h.2) ?_ | refine NeedI.mk (fun h => h.1) ?_ | exact Done.mk | refine Both.mk (fun _ => ?_) (fun _ => ?_) | refine Both2.mk (fun _ => ?_) ?_ | refine Need.mk (by with_reducible exact Nat.le_of_eq (Nat.zero_add _)) ?_)
        | ((with_reducible fail_if_success first | refine LoopVC.mk ?_ | refine Need.mk ?_ ?_ | refine CallVC.mk ?_ | refine LoopEnd.mk ?_ | refine Out.mk ?_ | show False | refine NeedI.mk ?_ ?_); conv => whnf)
    · rename_i h2
      simp only [decide_eq_false_iff_not] at h2
      refine CallVC.mk' (fun _ => number_ok K.m K.number s 8 (by omega) hs) (fun _ => .cons (.one (CEq.refl _)) (.cons (.one (CEq.refl _)) .nil)) ?_
      repeat' first
        | (with_reducible first | refine NeedI.mk (fun h => h) ?_ | refine NeedI.mk (fun h => h.2) ?_ | refine NeedI.mk (fun h => h.1) ?_ | exact Done.mk | refine Both.mk (fun _ => ?_) (fun _ => ?_) | refine Both2.mk (fun _ => ?_) ?_ | refine Need.mk (by first | omega | with_reducible exact CEq.refl _) ?_)
        | ((with_reducible fail_if_success first | refine LoopVC.mk ?_ | refine Need.mk ?_ ?_ | refine CallVC.mk ?_ | refine LoopEnd.mk ?_ | refine Out.mk ?_ | show False | refine NeedI.mk ?_ ?_); conv => whnf)
      · rename_i h3
        simp only [decide_eq_true_eq] at h3
        rw [took_long h h2 (by omega)]
        repeat' first
          | (with_reducible first | refine NeedI.mk (fun h => h) ?_ | refine NeedI.mk (fun h => h.2) ?_ | refine NeedI.mk (fun h => h.1) ?_ | exact Done.mk | refine Both.mk (fun _ => ?_) (fun _ => ?_) | refine Both2.mk (fun _ => ?_) ?_ | refine Need.mk (by with_reducible exact Nat.le_of_eq (Nat.zero_add _)) ?_)
          | ((with_reducible fail_if_success first | refine LoopVC.mk ?_ | refine Need.mk ?_ ?_ | refine CallVC.mk ?_ | refine LoopEnd.mk ?_ | refine Out.mk ?_ | show False | refine NeedI.mk ?_ ?_); conv => whnf)
        refine Need.mk (CEq.refl _) ?_
        repeat' first
          | (with_reducible first | refine NeedI.mk (fun h => h) ?_ | refine NeedI.mk (fun h => h.2) ?_ | refine NeedI.mk (fun h => h.1) ?_ | exact Done.mk | refine Both.mk (fun _ => ?_) (fun _ => ?_) | refine Both2.mk (fun _ => ?_) ?_ | refine Need.mk (by with_reducible exact Nat.le_of_eq (Nat.zero_add _)) ?_)
          | ((with_reducible fail_if_success first | refine LoopVC.mk ?_ | refine Need.mk ?_ ?_ | refine CallVC.mk ?_ | refine LoopEnd.mk ?_ | refine Out.mk ?_ | show False | refine NeedI.mk ?_ ?_); conv => whnf)
        refine Need.mk (CEq.refl _) ?_
        repeat' first
          | (with_reducible first | refine NeedI.mk (fun h => h) ?_ | refine NeedI.mk (fun h => h.2) ?_ | refine NeedI.mk (fun h => h.1) ?_ | exact Done.mk | refine Both.mk (fun _ => ?_) (fun _ => ?_) | refine Both2.mk (fun _ => ?_) ?_ | refine Need.mk (by with_reducible exact Nat.le_of_eq (Nat.zero_add _)) ?_)
          | ((with_reducible fail_if_success first | refine LoopVC.mk ?_ | refine Need.mk ?_ ?_ | refine CallVC.mk ?_ | refine LoopEnd.mk ?_ | refine Out.mk ?_ | show False | refine NeedI.mk ?_ ?_); conv => whnf)
        refine Need.mk (CEq.refl _) ?_
        repeat' first
          | (with_reducible first | refine NeedI.mk (fun h => h) ?_ | refine NeedI.mk (fun h => h.2) ?_ | refine NeedI.mk (fun h => h.1) ?_ | exact Done.mk | refine Both.mk (fun _ => ?_) (fun _ => ?_) | refine Both2.mk (fun _ => ?_) ?_ | refine Need.mk (by with_reducible exact Nat.le_of_eq (Nat.zero_add _)) ?_)
          | ((with_reducible fail_if_success first | refine LoopVC.mk ?_ | refine Need.mk ?_ ?_ | refine CallVC.mk ?_ | refine LoopEnd.mk ?_ | refine Out.mk ?_ | show False | refine NeedI.mk ?_ ?_); conv => whnf)
        refine Need.mk (CEq.refl _) ?_
        repeat' first
          | (with_reducible first | refine NeedI.mk (fun h => h) ?_ | refine NeedI.mk (fun h => h.2) ?_ | refine NeedI.mk (fun h => h.1) ?_ | exact Done.mk | refine Both.mk (fun _ => ?_) (fun _ => ?_) | refine Both2.mk (fun _ => ?_) ?_ | refine Need.mk (by with_reducible exact Nat.le_of_eq (Nat.zero_add _)) ?_)
          | ((with_reducible fail_if_success first | refine LoopVC.mk ?_ | refine Need.mk ?_ ?_ | refine CallVC.mk ?_ | refine LoopEnd.mk ?_ | refine Out.mk ?_ | show False | refine NeedI.mk ?_ ?_); conv => whnf)
      · rename_i h3
        simp only [decide_eq_false_iff_not] at h3
        have h3 : ¬ 16 < num s 8 := by omega
        refine CallVC.mk' (fun _ => number_ok K.m K.number s 0 (by omega) hs) (fun _ => .cons (.one (CEq.refl _)) (.cons (.one (CEq.refl _)) .nil)) ?_
        repeat' first
          | (with_reducible first | refine NeedI.mk (fun h => h) ?_ | refine NeedI.mk (fun h => h.2) ?_ | refine NeedI.mk (fun h => h.1) ?_ | exact Done.mk | refine Both.mk (fun _ => ?_) (fun _ => ?_) | refine Both2.mk (fun _ => ?_) ?_ | refine Need.mk (by first | omega | with_reducible exact CEq.refl _) ?_)
          | ((with_reducible fail_if_success first | refine LoopVC.mk ?_ | refine Need.mk ?_ ?_ | refine CallVC.mk ?_ | refine LoopEnd.mk ?_ | refine Out.mk ?_ | show False | refine NeedI.mk ?_ ?_); conv => whnf)
        refine CallVC.mk' (fun _ => number_ok K.m K.number s 4 (by omega) hs) (fun _ => .cons (.one (CEq.refl _)) (.cons (.one (CEq.refl _)) .nil)) ?_
        repeat' first
          | (with_reducible first | refine NeedI.mk (fun h => h) ?_ | refine NeedI.mk (fun h => h.2) ?_ | refine NeedI.mk (fun h => h.1) ?_ | exact Done.mk | refine Both.mk (fun _ => ?_) (fun _ => ?_) | refine Both2.mk (fun _ => ?_) ?_ | refine Need.mk (by first | omega | with_reducible exact CEq.refl _ | (simp only [decide_eq_true_eq, decide_eq_false_iff_not, Bool.or_eq_true, Bool.and_eq_true, Bool.or_eq_false_iff, Int.toNat_natCast, addN_eq, cond_false, cond_true, rng] at *; omega)) ?_)
          | ((with_reducible fail_if_success first | refine LoopVC.mk ?_ | refine Need.mk ?_ ?_ | refine CallVC.mk ?_ | refine LoopEnd.mk ?_ | refine Out.mk ?_ | show False | refine NeedI.mk ?_ ?_); conv => whnf)
        refine CallVC.mk' (fun _ => put_ok K (cut s) (cut_len hs)) (fun _ => .cons (.many fun j hj => ?_) .nil) ?_
        · rcases (show j = 0 ∨ j = 1 ∨ j = 2 by omega) with rfl | rfl | rfl
          · exact CEq.refl _
          · exact CEq.refl _
          · exact eS (cut_body s)
        repeat' first
          | (with_reducible first | refine NeedI.mk (fun h => h) ?_ | refine NeedI.mk (fun h => h.2) ?_ | refine NeedI.mk (fun h => h.1) ?_ | exact Done.mk | refine Both.mk (fun _ => ?_) (fun _ => ?_) | refine Both2.mk (fun _ => ?_) ?_ | refine Need.mk (by first | omega | with_reducible exact CEq.refl _) ?_)
          | ((with_reducible fail_if_success first | refine LoopVC.mk ?_ | refine Need.mk ?_ ?_ | refine CallVC.mk ?_ | refine LoopEnd.mk ?_ | refine Out.mk ?_ | show False | refine NeedI.mk ?_ ?_); conv => whnf)
        · rename_i h4
          have h5 : ¬ (right (cut s) ∧ putS (cut s) = s) := by
            rintro ⟨a, b⟩
            rw [show put (cut s) = s by unfold put; rw [if_pos a, b], show putE (cut s) = 0 by unfold putE; exact if_pos a] at h4
            simp at h4
          rw [took_bad h h2 h3 h5]
          repeat' first
            | (with_reducible first | refine NeedI.mk (fun h => h) ?_ | refine NeedI.mk (fun h => h.2) ?_ | refine NeedI.mk (fun h => h.1) ?_ | exact Done.mk | refine Both.mk (fun _ => ?_) (fun _ => ?_) | refine Both2.mk (fun _ => ?_) ?_ | refine Need.mk (by with_reducible exact Nat.le_of_eq (Nat.zero_add _)) ?_)
            | ((with_reducible fail_if_success first | refine LoopVC.mk ?_ | refine Need.mk ?_ ?_ | refine CallVC.mk ?_ | refine LoopEnd.mk ?_ | refine Out.mk ?_ | show False | refine NeedI.mk ?_ ?_); conv => whnf)
          refine Need.mk (CEq.refl _) ?_
          repeat' first
            | (with_reducible first | refine NeedI.mk (fun h => h) ?_ | refine NeedI.mk (fun h => h.2) ?_ | refine NeedI.mk (fun h => h.1) ?_ | exact Done.mk | refine Both.mk (fun _ => ?_) (fun _ => ?_) | refine Both2.mk (fun _ => ?_) ?_ | refine Need.mk (by with_reducible exact Nat.le_of_eq (Nat.zero_add _)) ?_)
            | ((with_reducible fail_if_success first | refine LoopVC.mk ?_ | refine Need.mk ?_ ?_ | refine CallVC.mk ?_ | refine LoopEnd.mk ?_ | refine Out.mk ?_ | show False | refine NeedI.mk ?_ ?_); conv => whnf)
          refine Need.mk (CEq.refl _) ?_
          repeat' first
            | (with_reducible first | refine NeedI.mk (fun h => h) ?_ | refine NeedI.mk (fun h => h.2) ?_ | refine NeedI.mk (fun h => h.1) ?_ | exact Done.mk | refine Both.mk (fun _ => ?_) (fun _ => ?_) | refine Both2.mk (fun _ => ?_) ?_ | refine Need.mk (by with_reducible exact Nat.le_of_eq (Nat.zero_add _)) ?_)
            | ((with_reducible fail_if_success first | refine LoopVC.mk ?_ | refine Need.mk ?_ ?_ | refine CallVC.mk ?_ | refine LoopEnd.mk ?_ | refine Out.mk ?_ | show False | refine NeedI.mk ?_ ?_); conv => whnf)
          refine Need.mk (CEq.refl _) ?_
          repeat' first
            | (with_reducible first | refine NeedI.mk (fun h => h) ?_ | refine NeedI.mk (fun h => h.2) ?_ | refine NeedI.mk (fun h => h.1) ?_ | exact Done.mk | refine Both.mk (fun _ => ?_) (fun _ => ?_) | refine Both2.mk (fun _ => ?_) ?_ | refine Need.mk (by with_reducible exact Nat.le_of_eq (Nat.zero_add _)) ?_)
            | ((with_reducible fail_if_success first | refine LoopVC.mk ?_ | refine Need.mk ?_ ?_ | refine CallVC.mk ?_ | refine LoopEnd.mk ?_ | refine Out.mk ?_ | show False | refine NeedI.mk ?_ ?_); conv => whnf)
          refine Need.mk (CEq.refl _) ?_
          repeat' first
            | (with_reducible first | refine NeedI.mk (fun h => h) ?_ | refine NeedI.mk (fun h => h.2) ?_ | refine NeedI.mk (fun h => h.1) ?_ | exact Done.mk | refine Both.mk (fun _ => ?_) (fun _ => ?_) | refine Both2.mk (fun _ => ?_) ?_ | refine Need.mk (by with_reducible exact Nat.le_of_eq (Nat.zero_add _)) ?_)
            | ((with_reducible fail_if_success first | refine LoopVC.mk ?_ | refine Need.mk ?_ ?_ | refine CallVC.mk ?_ | refine LoopEnd.mk ?_ | refine Out.mk ?_ | show False | refine NeedI.mk ?_ ?_); conv => whnf)
        · rename_i h4
          have h5 : right (cut s) ∧ putS (cut s) = s := by
            by_cases a : right (cut s)
            · rw [show put (cut s) = putS (cut s) by unfold put; exact if_pos a] at h4
              simp at h4
              exact ⟨a, h4.2⟩
            · rw [show putE (cut s) = 1 by unfold putE; exact if_neg a] at h4
              simp at h4
          rw [took_good h h2 h3 h5]
          repeat' first
            | (with_reducible first | refine NeedI.mk (fun h => h) ?_ | refine NeedI.mk (fun h => h.2) ?_ | refine NeedI.mk (fun h => h.1) ?_ | exact Done.mk | refine Both.mk (fun _ => ?_) (fun _ => ?_) | refine Both2.mk (fun _ => ?_) ?_ | refine Need.mk (by with_reducible exact Nat.le_of_eq (Nat.zero_add _)) ?_)
            | ((with_reducible fail_if_success first | refine LoopVC.mk ?_ | refine Need.mk ?_ ?_ | refine CallVC.mk ?_ | refine LoopEnd.mk ?_ | refine Out.mk ?_ | show False | refine NeedI.mk ?_ ?_); conv => whnf)
          refine Need.mk (CEq.refl _) ?_
          repeat' first
            | (with_reducible first | refine NeedI.mk (fun h => h) ?_ | refine NeedI.mk (fun h => h.2) ?_ | refine NeedI.mk (fun h => h.1) ?_ | exact Done.mk | refine Both.mk (fun _ => ?_) (fun _ => ?_) | refine Both2.mk (fun _ => ?_) ?_ | refine Need.mk (by with_reducible exact Nat.le_of_eq (Nat.zero_add _)) ?_)
            | ((with_reducible fail_if_success first | refine LoopVC.mk ?_ | refine Need.mk ?_ ?_ | refine CallVC.mk ?_ | refine LoopEnd.mk ?_ | refine Out.mk ?_ | show False | refine NeedI.mk ?_ ?_); conv => whnf)
          refine Need.mk (CEq.refl _) ?_
          repeat' first
            | (with_reducible first | refine NeedI.mk (fun h => h) ?_ | refine NeedI.mk (fun h => h.2) ?_ | refine NeedI.mk (fun h => h.1) ?_ | exact Done.mk | refine Both.mk (fun _ => ?_) (fun _ => ?_) | refine Both2.mk (fun _ => ?_) ?_ | refine Need.mk (by with_reducible exact Nat.le_of_eq (Nat.zero_add _)) ?_)
            | ((with_reducible fail_if_success first | refine LoopVC.mk ?_ | refine Need.mk ?_ ?_ | refine CallVC.mk ?_ | refine LoopEnd.mk ?_ | refine Out.mk ?_ | show False | refine NeedI.mk ?_ ?_); conv => whnf)
          refine Need.mk (eS (cut_body s)) ?_
          repeat' first
            | (with_reducible first | refine NeedI.mk (fun h => h) ?_ | refine NeedI.mk (fun h => h.2) ?_ | refine NeedI.mk (fun h => h.1) ?_ | exact Done.mk | refine Both.mk (fun _ => ?_) (fun _ => ?_) | refine Both2.mk (fun _ => ?_) ?_ | refine Need.mk (by with_reducible exact Nat.le_of_eq (Nat.zero_add _)) ?_)
            | ((with_reducible fail_if_success first | refine LoopVC.mk ?_ | refine Need.mk ?_ ?_ | refine CallVC.mk ?_ | refine LoopEnd.mk ?_ | refine Out.mk ?_ | show False | refine NeedI.mk ?_ ?_); conv => whnf)
          refine Need.mk (CEq.refl _) ?_
          repeat' first
            | (with_reducible first | refine NeedI.mk (fun h => h) ?_ | refine NeedI.mk (fun h => h.2) ?_ | refine NeedI.mk (fun h => h.1) ?_ | exact Done.mk | refine Both.mk (fun _ => ?_) (fun _ => ?_) | refine Both2.mk (fun _ => ?_) ?_ | refine Need.mk (by with_reducible exact Nat.le_of_eq (Nat.zero_add _)) ?_)
            | ((with_reducible fail_if_success first | refine LoopVC.mk ?_ | refine Need.mk ?_ ?_ | refine CallVC.mk ?_ | refine LoopEnd.mk ?_ | refine Out.mk ?_ | show False | refine NeedI.mk ?_ ?_); conv => whnf)
set_option maxHeartbeats 8000000 in
set_option maxRecDepth 100000 in
theorem rtake_ok (K : KRef P F) (s : List UInt8) (hs : s.length ≤ 1000000) : FnOk P (F 64) [.one (.str s)] [.many 3 (fun j => .im (pgE (took s).1 j)), .one (.im (.int .i64 (took s).2))] := by
  refine fnOk K.m K.take ?_
  repeat' first
    | (with_reducible first | refine NeedI.mk (fun h => h) ?_ | refine NeedI.mk (fun h => h.2) ?_ | refine NeedI.mk (fun h => h.1) ?_ | exact Done.mk | refine Both.mk (fun _ => ?_) (fun _ => ?_) | refine Both2.mk (fun _ => ?_) ?_ | refine Need.mk (by first | omega | with_reducible exact CEq.refl _) ?_)
    | ((with_reducible fail_if_success first | refine LoopVC.mk ?_ | refine Need.mk ?_ ?_ | refine CallVC.mk ?_ | refine LoopEnd.mk ?_ | refine Out.mk ?_ | show False | refine NeedI.mk ?_ ?_); conv => whnf)
  · rename_i h
    simp only [Bool.not_eq_true', decide_eq_false_iff_not] at h
    rw [took_len (by omega)]
    repeat' first
      | (with_reducible first | refine NeedI.mk (fun h => h) ?_ | refine NeedI.mk (fun h => h.2) ?_ | refine NeedI.mk (fun h => h.1) ?_ | exact Done.mk | refine Both.mk (fun _ => ?_) (fun _ => ?_) | refine Both2.mk (fun _ => ?_) ?_ | refine Need.mk (by with_reducible exact Nat.le_of_eq (Nat.zero_add _)) ?_)
      | ((with_reducible fail_if_success first | refine LoopVC.mk ?_ | refine Need.mk ?_ ?_ | refine CallVC.mk ?_ | refine LoopEnd.mk ?_ | refine Out.mk ?_ | show False | refine NeedI.mk ?_ ?_); conv => whnf)
    refine Need.mk (CEq.refl _) ?_
    repeat' first
      | (with_reducible first | refine NeedI.mk (fun h => h) ?_ | refine NeedI.mk (fun h => h.2) ?_ | refine NeedI.mk (fun h => h.1) ?_ | exact Done.mk | refine Both.mk (fun _ => ?_) (fun _ => ?_) | refine Both2.mk (fun _ => ?_) ?_ | refine Need.mk (by with_reducible exact Nat.le_of_eq (Nat.zero_add _)) ?_)
      | ((with_reducible fail_if_success first | refine LoopVC.mk ?_ | refine Need.mk ?_ ?_ | refine CallVC.mk ?_ | refine LoopEnd.mk ?_ | refine Out.mk ?_ | show False | refine NeedI.mk ?_ ?_); conv => whnf)
    refine Need.mk (CEq.refl _) ?_
    repeat' first
      | (with_reducible first | refine NeedI.mk (fun h => h) ?_ | refine NeedI.mk (fun h => h.2) ?_ | refine NeedI.mk (fun h => h.1) ?_ | exact Done.mk | refine Both.mk (fun _ => ?_) (fun _ => ?_) | refine Both2.mk (fun _ => ?_) ?_ | refine Need.mk (by with_reducible exact Nat.le_of_eq (Nat.zero_add _)) ?_)
      | ((with_reducible fail_if_success first | refine LoopVC.mk ?_ | refine Need.mk ?_ ?_ | refine CallVC.mk ?_ | refine LoopEnd.mk ?_ | refine Out.mk ?_ | show False | refine NeedI.mk ?_ ?_); conv => whnf)
    refine Need.mk (CEq.refl _) ?_
    repeat' first
      | (with_reducible first | refine NeedI.mk (fun h => h) ?_ | refine NeedI.mk (fun h => h.2) ?_ | refine NeedI.mk (fun h => h.1) ?_ | exact Done.mk | refine Both.mk (fun _ => ?_) (fun _ => ?_) | refine Both2.mk (fun _ => ?_) ?_ | refine Need.mk (by with_reducible exact Nat.le_of_eq (Nat.zero_add _)) ?_)
      | ((with_reducible fail_if_success first | refine LoopVC.mk ?_ | refine Need.mk ?_ ?_ | refine CallVC.mk ?_ | refine LoopEnd.mk ?_ | refine Out.mk ?_ | show False | refine NeedI.mk ?_ ?_); conv => whnf)
    refine Need.mk (CEq.refl _) ?_
    repeat' first
      | (with_reducible first | refine NeedI.mk (fun h => h) ?_ | refine NeedI.mk (fun h => h.2) ?_ | refine NeedI.mk (fun h => h.1) ?_ | exact Done.mk | refine Both.mk (fun _ => ?_) (fun _ => ?_) | refine Both2.mk (fun _ => ?_) ?_ | refine Need.mk (by with_reducible exact Nat.le_of_eq (Nat.zero_add _)) ?_)
      | ((with_reducible fail_if_success first | refine LoopVC.mk ?_ | refine Need.mk ?_ ?_ | refine CallVC.mk ?_ | refine LoopEnd.mk ?_ | refine Out.mk ?_ | show False | refine NeedI.mk ?_ ?_); conv => whnf)
  · rename_i h
    simp only [Bool.not_eq_false', decide_eq_true_eq] at h
    have h : s.length = 32 := by omega
    refine CallVC.mk' (fun _ => noughts_ok K.m K.noughts s hs) (fun _ => .cons (.one (CEq.refl _)) .nil) ?_
    repeat' first
      | (with_reducible first | refine NeedI.mk (fun h => h) ?_ | refine NeedI.mk (fun h => h.2) ?_ | refine NeedI.mk (fun h => h.1) ?_ | exact Done.mk | refine Both.mk (fun _ => ?_) (fun _ => ?_) | refine Both2.mk (fun _ => ?_) ?_ | refine Need.mk (by first | omega | with_reducible exact CEq.refl _) ?_)
      | ((with_reducible fail_if_success first | refine LoopVC.mk ?_ | refine Need.mk ?_ ?_ | refine CallVC.mk ?_ | refine LoopEnd.mk ?_ | refine Out.mk ?_ | show False | refine NeedI.mk ?_ ?_); conv => whnf)
    · rename_i h2
      simp only [decide_eq_true_eq] at h2
      rw [took_nought h (List.eq_replicate_iff.2 ⟨h, h2⟩)]
      repeat' first
        | (with_reducible first | refine NeedI.mk (fun h => h) ?_ | refine NeedI.mk (fun h => h.2) ?_ | refine NeedI.mk (fun h => h.1) ?_ | exact Done.mk | refine Both.mk (fun _ => ?_) (fun _ => ?_) | refine Both2.mk (fun _ => ?_) ?_ | refine Need.mk (by with_reducible exact Nat.le_of_eq (Nat.zero_add _)) ?_)
        | ((with_reducible fail_if_success first | refine LoopVC.mk ?_ | refine Need.mk ?_ ?_ | refine CallVC.mk ?_ | refine LoopEnd.mk ?_ | refine Out.mk ?_ | show False | refine NeedI.mk ?_ ?_); conv => whnf)
      refine Need.mk (CEq.refl _) ?_
      repeat' first
        | (with_reducible first | refine NeedI.mk (fun h => h) ?_ | refine NeedI.mk (fun h => h.2) ?_ | refine NeedI.mk (fun h => h.1) ?_ | exact Done.mk | refine Both.mk (fun _ => ?_) (fun _ => ?_) | refine Both2.mk (fun _ => ?_) ?_ | refine Need.mk (by with_reducible exact Nat.le_of_eq (Nat.zero_add _)) ?_)
        | ((with_reducible fail_if_success first | refine LoopVC.mk ?_ | refine Need.mk ?_ ?_ | refine CallVC.mk ?_ | refine LoopEnd.mk ?_ | refine Out.mk ?_ | show False | refine NeedI.mk ?_ ?_); conv => whnf)
      refine Need.mk (CEq.refl _) ?_
      repeat' first
        | (with_reducible first | refine NeedI.mk (fun h => h) ?_ | refine NeedI.mk (fun h => h.2) ?_ | refine NeedI.mk (fun h => h.1) ?_ | exact Done.mk | refine Both.mk (fun _ => ?_) (fun _ => ?_) | refine Both2.mk (fun _ => ?_) ?_ | refine Need.mk (by with_reducible exact Nat.le_of_eq (Nat.zero_add _)) ?_)
        | ((with_reducible fail_if_success first | refine LoopVC.mk ?_ | refine Need.mk ?_ ?_ | refine CallVC.mk ?_ | refine LoopEnd.mk ?_ | refine Out.mk ?_ | show False | refine NeedI.mk ?_ ?_); conv => whnf)
      refine Need.mk (CEq.refl _) ?_
      repeat' first
        | (with_reducible first | refine NeedI.mk (fun h => h) ?_ | refine NeedI.mk (fun h => h.2) ?_ | refine NeedI.mk (fun h => h.1) ?_ | exact Done.mk | refine Both.mk (fun _ => ?_) (fun _ => ?_) | refine Both2.mk (fun _ => ?_) ?_ | refine Need.mk (by with_reducible exact Nat.le_of_eq (Nat.zero_add _)) ?_)
        | ((with_reducible fail_if_success first | refine LoopVC.mk ?_ | refine Need.mk ?_ ?_ | refine CallVC.mk ?_ | refine LoopEnd.mk ?_ | refine Out.mk ?_ | show False | refine NeedI.mk ?_ ?_); conv => whnf)
      refine Need.mk (CEq.refl _) ?_
      repeat' first
        | (with_reducible first | refine NeedI.mk (fun h => h) ?_ | refine NeedI.mk (fun h => h.2) ?_ | refine NeedI.mk (fun h => h.1) ?_ | exact Done.mk | refine Both.mk (fun _ => ?_) (fun _ => ?_) | refine Both2.mk (fun _ => ?_) ?_ | refine Need.mk (by with_reducible exact Nat.le_of_eq (Nat.zero_add _)) ?_)
        | ((with_reducible fail_if_success first | refine LoopVC.mk ?_ | refine Need.mk ?_ ?_ | refine CallVC.mk ?_ | refine LoopEnd.mk ?_ | refine Out.mk ?_ | show False | refine NeedI.mk ?_ ?_); conv => whnf)
    · rename_i h2
      simp only [decide_eq_false_iff_not] at h2
      have h2 : s ≠ List.replicate 32 0 := fun e => h2 (List.eq_replicate_iff.1 e).2
      refine LoopVC.inv (fun i : Nat => i ≤ 3) (fun i => stL [(0, .c (.str s)), (2, .va 2 0 0), (4, .ra 4 0 1 0 0), (5, .c (.int .i64 i))]
          [(2, vE [.c (.int .i64 0), .c (.int .i64 0), .c (.str [])]), (4, ⟨1, 3, .gen fun r _ => .c (.int .i64 (if r < i then num s (4 * r) else 0 : Nat)), false, true⟩)])
        (fun i => 3 - i) 0 (Nat.zero_le _) ?_ ?_
      · refine Le.of ⟨rfl, ⟨rfl, rfl, rfl⟩, ⟨rfl, rfl, rfl, rfl, rfl⟩, rfl, trivial⟩ ⟨⟨_, rfl, SubE.var3 rfl rfl rfl⟩, ⟨_, rfl, ⟨rfl, rfl, id, id, fun r hr j hj => ?_⟩⟩, trivial⟩
        obtain rfl : j = 0 := by have hj : j < 1 := hj; omega
        exact CEq.refl _
      rintro Q hQ i hi
      have hb : ∀ j, (s.getD j 0).toNat < 256 := fun j => (s.getD j 0).toNat_lt
      have hb0 := hb (4 * (i : Int)).toNat
      have hb1 := hb (4 * (i : Int) + 1).toNat
      have hb2 := hb (4 * (i : Int) + 2).toNat
      have hb3 := hb (4 * (i : Int) + 3).toNat
      repeat' first
        | (with_reducible first | refine NeedI.mk (fun h => h) ?_ | refine NeedI.mk (fun h => h.2) ?_ | refine NeedI.mk (fun h => h.1) ?_ | exact Done.mk | refine Both.mk (fun _ => ?_) (fun _ => ?_) | refine Both2.mk (fun _ => ?_) ?_ | refine Need.mk (by first | omega | with_reducible exact CEq.refl _ | (simp only [rng]; omega) | (simp only [decide_eq_true_eq, decide_eq_false_iff_not, Bool.or_eq_true, Bool.and_eq_true, Bool.or_eq_false_iff, Int.toNat_natCast, addN_eq, cond_false, cond_true, rng] at *; omega)) ?_)
        | ((with_reducible fail_if_success first | refine LoopVC.mk ?_ | refine Need.mk ?_ ?_ | refine CallVC.mk ?_ | refine LoopEnd.mk ?_ | refine Out.mk ?_ | show False | refine NeedI.mk ?_ ?_); conv => whnf)
      · rename_i h3
        simp only [decide_eq_true_eq] at h3
        have hn := num_eq s (4 * i)
        refine LoopEnd.mk ⟨i + 1, by omega, by omega, ?_⟩
        rw [show (4 * (i : Int)).toNat = 4 * i by omega, show (4 * (i : Int) + 1).toNat = 4 * i + 1 by omega, show (4 * (i : Int) + 2).toNat = 4 * i + 2 by omega, show (4 * (i : Int) + 3).toNat = 4 * i + 3 by omega]
        refine Le.of ⟨rfl, ⟨rfl, rfl, rfl⟩, ⟨rfl, rfl, rfl, rfl, rfl⟩, cI (by simp), trivial⟩ ⟨⟨_, rfl, SubE.var3 rfl rfl rfl⟩, ⟨_, rfl, ⟨rfl, rfl, id, id, fun r hr j hj => ?_⟩⟩, trivial⟩
        obtain rfl : j = 0 := by have hj : j < 1 := hj; omega
        show SubV _ (updC (fun r _ => AV.c (.int .i64 ((if r < i then num s (4 * r) else 0 : Nat) : Int))) (i : Int).toNat 0 (.c (.int .i64 (((s.getD (4 * i) 0).toNat : Int) + 256 * ((s.getD (4 * i + 1) 0).toNat : Int) + 65536 * ((s.getD (4 * i + 2) 0).toNat : Int) + 16777216 * ((s.getD (4 * i + 3) 0).toNat : Int)))) r 0) (.c (.int .i64 ((if r < i + 1 then num s (4 * r) else 0 : Nat) : Int)))
        rw [updC_at, hn, Int.toNat_natCast]
        by_cases hri : r = i
        · subst hri
          rw [if_pos ⟨rfl, rfl⟩, if_pos (by omega)]
          exact rfl
        · rw [if_neg (fun x => hri x.1)]
          refine cI ?_
          congr 1
          by_cases hlt : r < i
          · rw [if_pos hlt, if_pos (by omega)]
          · rw [if_neg hlt, if_neg (by omega)]
      · rename_i h3
        simp only [decide_eq_false_iff_not] at h3
        obtain rfl : i = 3 := by omega
        refine Out.mk (hQ _ _ ?_)
        repeat' first
          | (with_reducible first | refine NeedI.mk (fun h => h) ?_ | refine NeedI.mk (fun h => h.2) ?_ | refine NeedI.mk (fun h => h.1) ?_ | exact Done.mk | refine Both.mk (fun _ => ?_) (fun _ => ?_) | refine Both2.mk (fun _ => ?_) ?_ | refine Need.mk (by first | omega | with_reducible exact CEq.refl _ | (simp only [rng]; omega) | (simp only [decide_eq_true_eq, decide_eq_false_iff_not, Bool.or_eq_true, Bool.and_eq_true, Bool.or_eq_false_iff, Int.toNat_natCast, addN_eq, cond_false, cond_true, rng] at *; omega)) ?_)
          | ((with_reducible fail_if_success first | refine LoopVC.mk ?_ | refine Need.mk ?_ ?_ | refine CallVC.mk ?_ | refine LoopEnd.mk ?_ | refine Out.mk ?_ | show False | refine NeedI.mk ?_ ?_); conv => whnf)
        · rename_i h4
          have h4 : 16 < num s 8 := by
            have := of_decide_eq_true h4
            have e8 : (if Int.toNat 2 < 3 then num s (4 * Int.toNat 2) else 0) = num s 8 := rfl
            rw [e8] at this
            omega
          rw [took_long h h2 h4]
          repeat' first
            | (with_reducible first | refine NeedI.mk (fun h => h) ?_ | refine NeedI.mk (fun h => h.2) ?_ | refine NeedI.mk (fun h => h.1) ?_ | exact Done.mk | refine Both.mk (fun _ => ?_) (fun _ => ?_) | refine Both2.mk (fun _ => ?_) ?_ | refine Need.mk (by with_reducible exact Nat.le_of_eq (Nat.zero_add _)) ?_)
            | ((with_reducible fail_if_success first | refine LoopVC.mk ?_ | refine Need.mk ?_ ?_ | refine CallVC.mk ?_ | refine LoopEnd.mk ?_ | refine Out.mk ?_ | show False | refine NeedI.mk ?_ ?_); conv => whnf)
          refine Need.mk (CEq.refl _) ?_
          repeat' first
            | (with_reducible first | refine NeedI.mk (fun h => h) ?_ | refine NeedI.mk (fun h => h.2) ?_ | refine NeedI.mk (fun h => h.1) ?_ | exact Done.mk | refine Both.mk (fun _ => ?_) (fun _ => ?_) | refine Both2.mk (fun _ => ?_) ?_ | refine Need.mk (by with_reducible exact Nat.le_of_eq (Nat.zero_add _)) ?_)
            | ((with_reducible fail_if_success first | refine LoopVC.mk ?_ | refine Need.mk ?_ ?_ | refine CallVC.mk ?_ | refine LoopEnd.mk ?_ | refine Out.mk ?_ | show False | refine NeedI.mk ?_ ?_); conv => whnf)
          refine Need.mk (CEq.refl _) ?_
          repeat' first
            | (with_reducible first | refine NeedI.mk (fun h => h) ?_ | refine NeedI.mk (fun h => h.2) ?_ | refine NeedI.mk (fun h => h.1) ?_ | exact Done.mk | refine Both.mk (fun _ => ?_) (fun _ => ?_) | refine Both2.mk (fun _ => ?_) ?_ | refine Need.mk (by with_reducible exact Nat.le_of_eq (Nat.zero_add _)) ?_)
            | ((with_reducible fail_if_success first | refine LoopVC.mk ?_ | refine Need.mk ?_ ?_ | refine CallVC.mk ?_ | refine LoopEnd.mk ?_ | refine Out.mk ?_ | show False | refine NeedI.mk ?_ ?_); conv => whnf)
          refine Need.mk (CEq.refl _) ?_
          repeat' first
            | (with_reducible first | refine NeedI.mk (fun h => h) ?_ | refine NeedI.mk (fun h => h.2) ?_ | refine NeedI.mk (fun h => h.1) ?_ | exact Done.mk | refine Both.mk (fun _ => ?_) (fun _ => ?_) | refine Both2.mk (fun _ => ?_) ?_ | refine Need.mk (by with_reducible exact Nat.le_of_eq (Nat.zero_add _)) ?_)
            | ((with_reducible fail_if_success first | refine LoopVC.mk ?_ | refine Need.mk ?_ ?_ | refine CallVC.mk ?_ | refine LoopEnd.mk ?_ | refine Out.mk ?_ | show False | refine NeedI.mk ?_ ?_); conv => whnf)
          refine Need.mk (CEq.refl _) ?_
          repeat' first
            | (with_reducible first | refine NeedI.mk (fun h => h) ?_ | refine NeedI.mk (fun h => h.2) ?_ | refine NeedI.mk (fun h => h.1) ?_ | exact Done.mk | refine Both.mk (fun _ => ?_) (fun _ => ?_) | refine Both2.mk (fun _ => ?_) ?_ | refine Need.mk (by with_reducible exact Nat.le_of_eq (Nat.zero_add _)) ?_)
            | ((with_reducible fail_if_success first | refine LoopVC.mk ?_ | refine Need.mk ?_ ?_ | refine CallVC.mk ?_ | refine LoopEnd.mk ?_ | refine Out.mk ?_ | show False | refine NeedI.mk ?_ ?_); conv => whnf)
        · rename_i h4
          have h4 : ¬ 16 < num s 8 := by
            have := of_decide_eq_false h4
            have e8 : (if Int.toNat 2 < 3 then num s (4 * Int.toNat 2) else 0) = num s 8 := rfl
            rw [e8] at this
            omega
          have n0 : (if Int.toNat 0 < 3 then num s (4 * Int.toNat 0) else 0) = num s 0 := rfl
          have n1 : (if Int.toNat 1 < 3 then num s (4 * Int.toNat 1) else 0) = num s 4 := rfl
          have n2 : (if Int.toNat 2 < 3 then num s (4 * Int.toNat 2) else 0) = num s 8 := rfl
          rw [n2]
          repeat' first
            | (with_reducible first | refine NeedI.mk (fun h => h) ?_ | refine NeedI.mk (fun h => h.2) ?_ | refine NeedI.mk (fun h => h.1) ?_ | exact Done.mk | refine Both.mk (fun _ => ?_) (fun _ => ?_) | refine Both2.mk (fun _ => ?_) ?_ | refine Need.mk (by first | omega | with_reducible exact CEq.refl _ | (simp only [rng]; omega) | (simp only [decide_eq_true_eq, decide_eq_false_iff_not, Bool.or_eq_true, Bool.and_eq_true, Bool.or_eq_false_iff, Int.toNat_natCast, addN_eq, cond_false, cond_true, rng] at *; omega)) ?_)
            | ((with_reducible fail_if_success first | refine LoopVC.mk ?_ | refine Need.mk ?_ ?_ | refine CallVC.mk ?_ | refine LoopEnd.mk ?_ | refine Out.mk ?_ | show False | refine NeedI.mk ?_ ?_); conv => whnf)
          rw [n0, n1]
          refine CallVC.mk' (fun _ => rright_ok K.m K.right (cut s) (cut_len hs)) (fun _ => .cons (.many fun j hj => ?_) .nil) ?_
          · rcases (show j = 0 ∨ j = 1 ∨ j = 2 by omega) with rfl | rfl | rfl
            · exact CEq.refl _
            · exact CEq.refl _
            · exact eS (cut_body s)
          repeat' first
            | (with_reducible first | refine NeedI.mk (fun h => h) ?_ | refine NeedI.mk (fun h => h.2) ?_ | refine NeedI.mk (fun h => h.1) ?_ | exact Done.mk | refine Both.mk (fun _ => ?_) (fun _ => ?_) | refine Both2.mk (fun _ => ?_) ?_ | refine Need.mk (by first | omega | with_reducible exact CEq.refl _) ?_)
            | ((with_reducible fail_if_success first | refine LoopVC.mk ?_ | refine Need.mk ?_ ?_ | refine CallVC.mk ?_ | refine LoopEnd.mk ?_ | refine Out.mk ?_ | show False | refine NeedI.mk ?_ ?_); conv => whnf)
          refine CallVC.mk' (fun hc => rput_ok K (cut s) (by simpa using hc)) (fun _ => .cons (.many fun j hj => ?_) .nil) ?_
          · rcases (show j = 0 ∨ j = 1 ∨ j = 2 by omega) with rfl | rfl | rfl
            · exact CEq.refl _
            · exact CEq.refl _
            · exact eS (cut_body s)
          repeat' first
            | (with_reducible first | refine NeedI.mk (fun h => h) ?_ | refine NeedI.mk (fun h => h.2) ?_ | refine NeedI.mk (fun h => h.1) ?_ | exact Done.mk | refine Both.mk (fun _ => ?_) (fun _ => ?_) | refine Both2.mk (fun _ => ?_) ?_ | refine Need.mk (by first | omega | with_reducible exact CEq.refl _) ?_)
            | ((with_reducible fail_if_success first | refine LoopVC.mk ?_ | refine Need.mk ?_ ?_ | refine CallVC.mk ?_ | refine LoopEnd.mk ?_ | refine Out.mk ?_ | show False | refine NeedI.mk ?_ ?_); conv => whnf)
          · rename_i h5
            have h6 : ¬ (right (cut s) ∧ putS (cut s) = s) := by
              rintro ⟨a, b⟩
              rw [b] at h5
              simp [a] at h5
            rw [took_bad h h2 h4 h6]
            repeat' first
              | (with_reducible first | refine NeedI.mk (fun h => h) ?_ | refine NeedI.mk (fun h => h.2) ?_ | refine NeedI.mk (fun h => h.1) ?_ | exact Done.mk | refine Both.mk (fun _ => ?_) (fun _ => ?_) | refine Both2.mk (fun _ => ?_) ?_ | refine Need.mk (by with_reducible exact Nat.le_of_eq (Nat.zero_add _)) ?_)
              | ((with_reducible fail_if_success first | refine LoopVC.mk ?_ | refine Need.mk ?_ ?_ | refine CallVC.mk ?_ | refine LoopEnd.mk ?_ | refine Out.mk ?_ | show False | refine NeedI.mk ?_ ?_); conv => whnf)
            refine Need.mk (CEq.refl _) ?_
            repeat' first
              | (with_reducible first | refine NeedI.mk (fun h => h) ?_ | refine NeedI.mk (fun h => h.2) ?_ | refine NeedI.mk (fun h => h.1) ?_ | exact Done.mk | refine Both.mk (fun _ => ?_) (fun _ => ?_) | refine Both2.mk (fun _ => ?_) ?_ | refine Need.mk (by with_reducible exact Nat.le_of_eq (Nat.zero_add _)) ?_)
              | ((with_reducible fail_if_success first | refine LoopVC.mk ?_ | refine Need.mk ?_ ?_ | refine CallVC.mk ?_ | refine LoopEnd.mk ?_ | refine Out.mk ?_ | show False | refine NeedI.mk ?_ ?_); conv => whnf)
            refine Need.mk (CEq.refl _) ?_
            repeat' first
              | (with_reducible first | refine NeedI.mk (fun h => h) ?_ | refine NeedI.mk (fun h => h.2) ?_ | refine NeedI.mk (fun h => h.1) ?_ | exact Done.mk | refine Both.mk (fun _ => ?_) (fun _ => ?_) | refine Both2.mk (fun _ => ?_) ?_ | refine Need.mk (by with_reducible exact Nat.le_of_eq (Nat.zero_add _)) ?_)
              | ((with_reducible fail_if_success first | refine LoopVC.mk ?_ | refine Need.mk ?_ ?_ | refine CallVC.mk ?_ | refine LoopEnd.mk ?_ | refine Out.mk ?_ | show False | refine NeedI.mk ?_ ?_); conv => whnf)
            refine Need.mk (CEq.refl _) ?_
            repeat' first
              | (with_reducible first | refine NeedI.mk (fun h => h) ?_ | refine NeedI.mk (fun h => h.2) ?_ | refine NeedI.mk (fun h => h.1) ?_ | exact Done.mk | refine Both.mk (fun _ => ?_) (fun _ => ?_) | refine Both2.mk (fun _ => ?_) ?_ | refine Need.mk (by with_reducible exact Nat.le_of_eq (Nat.zero_add _)) ?_)
              | ((with_reducible fail_if_success first | refine LoopVC.mk ?_ | refine Need.mk ?_ ?_ | refine CallVC.mk ?_ | refine LoopEnd.mk ?_ | refine Out.mk ?_ | show False | refine NeedI.mk ?_ ?_); conv => whnf)
            refine Need.mk (CEq.refl _) ?_
            repeat' first
              | (with_reducible first | refine NeedI.mk (fun h => h) ?_ | refine NeedI.mk (fun h => h.2) ?_ | refine NeedI.mk (fun h => h.1) ?_ | exact Done.mk | refine Both.mk (fun _ => ?_) (fun _ => ?_) | refine Both2.mk (fun _ => ?_) ?_ | refine Need.mk (by with_reducible exact Nat.le_of_eq (Nat.zero_add _)) ?_)
              | ((with_reducible fail_if_success first | refine LoopVC.mk ?_ | refine Need.mk ?_ ?_ | refine CallVC.mk ?_ | refine LoopEnd.mk ?_ | refine Out.mk ?_ | show False | refine NeedI.mk ?_ ?_); conv => whnf)
          · rename_i h5
            have h6 : right (cut s) ∧ putS (cut s) = s := by
              simp at h5
              exact h5
            rw [took_good h h2 h4 h6]
            repeat' first
              | (with_reducible first | refine NeedI.mk (fun h => h) ?_ | refine NeedI.mk (fun h => h.2) ?_ | refine NeedI.mk (fun h => h.1) ?_ | exact Done.mk | refine Both.mk (fun _ => ?_) (fun _ => ?_) | refine Both2.mk (fun _ => ?_) ?_ | refine Need.mk (by with_reducible exact Nat.le_of_eq (Nat.zero_add _)) ?_)
              | ((with_reducible fail_if_success first | refine LoopVC.mk ?_ | refine Need.mk ?_ ?_ | refine CallVC.mk ?_ | refine LoopEnd.mk ?_ | refine Out.mk ?_ | show False | refine NeedI.mk ?_ ?_); conv => whnf)
            refine Need.mk (CEq.refl _) ?_
            repeat' first
              | (with_reducible first | refine NeedI.mk (fun h => h) ?_ | refine NeedI.mk (fun h => h.2) ?_ | refine NeedI.mk (fun h => h.1) ?_ | exact Done.mk | refine Both.mk (fun _ => ?_) (fun _ => ?_) | refine Both2.mk (fun _ => ?_) ?_ | refine Need.mk (by with_reducible exact Nat.le_of_eq (Nat.zero_add _)) ?_)
              | ((with_reducible fail_if_success first | refine LoopVC.mk ?_ | refine Need.mk ?_ ?_ | refine CallVC.mk ?_ | refine LoopEnd.mk ?_ | refine Out.mk ?_ | show False | refine NeedI.mk ?_ ?_); conv => whnf)
            refine Need.mk (CEq.refl _) ?_
            repeat' first
              | (with_reducible first | refine NeedI.mk (fun h => h) ?_ | refine NeedI.mk (fun h => h.2) ?_ | refine NeedI.mk (fun h => h.1) ?_ | exact Done.mk | refine Both.mk (fun _ => ?_) (fun _ => ?_) | refine Both2.mk (fun _ => ?_) ?_ | refine Need.mk (by with_reducible exact Nat.le_of_eq (Nat.zero_add _)) ?_)
              | ((with_reducible fail_if_success first | refine LoopVC.mk ?_ | refine Need.mk ?_ ?_ | refine CallVC.mk ?_ | refine LoopEnd.mk ?_ | refine Out.mk ?_ | show False | refine NeedI.mk ?_ ?_); conv => whnf)
            refine Need.mk (eS (cut_body s)) ?_
            repeat' first
              | (with_reducible first | refine NeedI.mk (fun h => h) ?_ | refine NeedI.mk (fun h => h.2) ?_ | refine NeedI.mk (fun h => h.1) ?_ | exact Done.mk | refine Both.mk (fun _ => ?_) (fun _ => ?_) | refine Both2.mk (fun _ => ?_) ?_ | refine Need.mk (by with_reducible exact Nat.le_of_eq (Nat.zero_add _)) ?_)
              | ((with_reducible fail_if_success first | refine LoopVC.mk ?_ | refine Need.mk ?_ ?_ | refine CallVC.mk ?_ | refine LoopEnd.mk ?_ | refine Out.mk ?_ | show False | refine NeedI.mk ?_ ?_); conv => whnf)
            refine Need.mk (CEq.refl _) ?_
            repeat' first
              | (with_reducible first | refine NeedI.mk (fun h => h) ?_ | refine NeedI.mk (fun h => h.2) ?_ | refine NeedI.mk (fun h => h.1) ?_ | exact Done.mk | refine Both.mk (fun _ => ?_) (fun _ => ?_) | refine Both2.mk (fun _ => ?_) ?_ | refine Need.mk (by with_reducible exact Nat.le_of_eq (Nat.zero_add _)) ?_)
              | ((with_reducible fail_if_success first | refine LoopVC.mk ?_ | refine Need.mk ?_ ?_ | refine CallVC.mk ?_ | refine LoopEnd.mk ?_ | refine Out.mk ?_ | show False | refine NeedI.mk ?_ ?_); conv => whnf)
end
end Lk.S02
namespace Lk.S02
open Go Lk Lk.C Lk.S01
section
variable {P : Program} {F : Nat → Nat}
structure KLaw (P : Program) (F : Nat → Nat) : Prop where
  k : KPage P F
  r : KRef P F
  awake : law02_awake_k P F
def p37 : Pg := ⟨3, 7, [97, 98]⟩
def s37 : List UInt8 := putS p37
theorem put37 : put p37 = s37 := by decide +kernel
theorem putE37 : putE p37 = 0 := by decide +kernel
theorem took37 : took s37 = (p37, 0) := by decide +kernel
theorem tookx : took [120] = (default, 2) := by decide +kernel
theorem len37 : s37.length = 32 := by decide +kernel
theorem ab37 : (s37.getD 0 0).toNat = 3 ∧ List.drop 16 (List.take 18 s37) = [97, 98] := by decide +kernel
set_option maxHeartbeats 8000000 in
set_option maxRecDepth 100000 in
theorem awake_ok (L : KLaw P F) : FnOk P (F 57) [] [.one (.im (.bool true))] := by
  refine fnOk L.k.m L.awake ?_
  have K := L.k
  repeat' first
    | (with_reducible first | refine NeedI.mk (fun h => h) ?_ | refine NeedI.mk (fun h => h.2) ?_ | refine NeedI.mk (fun h => h.1) ?_ | exact Done.mk | refine Both.mk (fun _ => ?_) (fun _ => ?_) | refine Both2.mk (fun _ => ?_) ?_ | refine Need.mk (by first | omega | with_reducible exact CEq.refl _) ?_)
    | ((with_reducible fail_if_success first | refine LoopVC.mk ?_ | refine Need.mk ?_ ?_ | refine CallVC.mk ?_ | refine LoopEnd.mk ?_ | refine Out.mk ?_ | show False | refine NeedI.mk ?_ ?_); conv => whnf)
  refine CallVC.mk' (fun _ => put_ok K p37 (by decide)) (fun _ => .cons ((.many fun j hj => by (rcases (show j = 0 ∨ j = 1 ∨ j = 2 by omega) with rfl | rfl | rfl <;> exact CEq.refl _))) .nil) ?_
  rw [put37, putE37]
  have hlen := len37
  have hab := ab37
  have ht := took37
  generalize s37 = s at *
  repeat' first
    | (with_reducible first | refine NeedI.mk (fun h => h) ?_ | refine NeedI.mk (fun h => h.2) ?_ | refine NeedI.mk (fun h => h.1) ?_ | exact Done.mk | refine Both.mk (fun _ => ?_) (fun _ => ?_) | refine Both2.mk (fun _ => ?_) ?_ | refine Need.mk (by first | omega | with_reducible exact CEq.refl _) ?_)
    | ((with_reducible fail_if_success first | refine LoopVC.mk ?_ | refine Need.mk ?_ ?_ | refine CallVC.mk ?_ | refine LoopEnd.mk ?_ | refine Out.mk ?_ | show False | refine NeedI.mk ?_ ?_); conv => whnf)
  refine CallVC.mk' (fun _ => take_ok K s (by omega)) (fun _ => .cons (.one (CEq.refl _)) .nil) ?_
  rw [ht]
  repeat' first
    | (with_reducible first | refine NeedI.mk (fun h => h) ?_ | refine NeedI.mk (fun h => h.2) ?_ | refine NeedI.mk (fun h => h.1) ?_ | exact Done.mk | refine Both.mk (fun _ => ?_) (fun _ => ?_) | refine Both2.mk (fun _ => ?_) ?_ | refine Need.mk (by first | omega | with_reducible exact CEq.refl _) ?_)
    | ((with_reducible fail_if_success first | refine LoopVC.mk ?_ | refine Need.mk ?_ ?_ | refine CallVC.mk ?_ | refine LoopEnd.mk ?_ | refine Out.mk ?_ | show False | refine NeedI.mk ?_ ?_); conv => whnf)
  refine CallVC.mk' (fun _ => take_ok K [120] (by decide)) (fun _ => .cons (.one (CEq.refl _)) .nil) ?_
  rw [tookx]
  repeat' first
    | (with_reducible first | refine NeedI.mk (fun h => h) ?_ | refine NeedI.mk (fun h => h.2) ?_ | refine NeedI.mk (fun h => h.1) ?_ | exact Done.mk | refine Both.mk (fun _ => ?_) (fun _ => ?_) | refine Both2.mk (fun _ => ?_) ?_ | refine Need.mk (by first | omega | with_reducible exact CEq.refl _) ?_)
    | ((with_reducible fail_if_success first | refine LoopVC.mk ?_ | refine Need.mk ?_ ?_ | refine CallVC.mk ?_ | refine LoopEnd.mk ?_ | refine Out.mk ?_ | show False | refine NeedI.mk ?_ ?_); conv => whnf)
  rw [show List.drop (Int.toNat 16) (List.take (Int.toNat 18) s) = [97, 98] from hab.2, show (s.getD (Int.toNat 0) 0).toNat = 3 from hab.1, hlen]
  refine Need.mk (eB (by decide +kernel)) ?_
  repeat' first
    | (with_reducible first | refine NeedI.mk (fun h => h) ?_ | refine NeedI.mk (fun h => h.2) ?_ | refine NeedI.mk (fun h => h.1) ?_ | exact Done.mk | refine Both.mk (fun _ => ?_) (fun _ => ?_) | refine Both2.mk (fun _ => ?_) ?_ | refine Need.mk (by with_reducible exact Nat.le_of_eq (Nat.zero_add _)) ?_)
    | ((with_reducible fail_if_success first | refine LoopVC.mk ?_ | refine Need.mk ?_ ?_ | refine CallVC.mk ?_ | refine LoopEnd.mk ?_ | refine Out.mk ?_ | show False | refine NeedI.mk ?_ ?_); conv => whnf)
end
end Lk.S02
namespace Lk.S02
open Go Lk Lk.C Lk.S01
theorem u8_nat (n : Nat) : (UInt8.ofNat n).toNat = n % 256 := by simp
theorem num_four {n : Nat} (hn : n < 4294967296) (a b : List UInt8) (k : Nat) (hk : a.length = k) : num (a ++ four n ++ b) k = n := by
  subst hk
  have e : ∀ j, j < 4 → (a ++ four n ++ b).getD (a.length + j) 0 = (four n).getD j 0 := fun j hj => by
    rw [List.append_assoc, List.getD_eq_getElem?_getD, List.getElem?_append_right (by omega), Nat.add_sub_cancel_left, List.getElem?_append_left (by rw [four_len]; exact hj), ← List.getD_eq_getElem?_getD]
  have := num_eq (a ++ four n ++ b) a.length
  rw [show (a ++ four n ++ b).getD a.length 0 = (four n).getD 0 0 from e 0 (by omega), e 1 (by omega), e 2 (by omega), e 3 (by omega)] at this
  have h0 : ((four n).getD 0 0).toNat = n % 256 := u8_nat _
  have h1 : ((four n).getD 1 0).toNat = n / 256 % 256 := u8_nat _
  have h2 : ((four n).getD 2 0).toNat = n / 65536 % 256 := u8_nat _
  have h3 : ((four n).getD 3 0).toNat = n / 16777216 % 256 := u8_nat _
  rw [h0, h1, h2, h3] at this
  omega
variable {p : Pg}
theorem putS_id (h : right p) : num (putS p) 0 = p.id.toNat := by
  have := h.1
  have e : putS p = [] ++ four p.id.toNat ++ (four p.version.toNat ++ four p.body.length ++ (four (sumN (headP p ++ tailP p)) ++ tailP p)) := by
    unfold putS headP; simp only [List.append_assoc, List.nil_append]
  rw [e]; exact num_four (by omega) _ _ _ rfl
theorem putS_version (h : right p) : num (putS p) 4 = p.version.toNat := by
  have := h.2.1
  have e : putS p = four p.id.toNat ++ four p.version.toNat ++ (four p.body.length ++ (four (sumN (headP p ++ tailP p)) ++ tailP p)) := by
    unfold putS headP; simp only [List.append_assoc]
  rw [e]; exact num_four (by omega) _ _ _ rfl
theorem putS_many (h : right p) : num (putS p) 8 = p.body.length := by
  have := h.2.2
  have e : putS p = (four p.id.toNat ++ four p.version.toNat) ++ four p.body.length ++ (four (sumN (headP p ++ tailP p)) ++ tailP p) := by
    unfold putS headP; simp only [List.append_assoc]
  rw [e]; exact num_four (by omega) _ _ _ rfl
theorem putS_drop : (putS p).drop 16 = tailP p := by
  unfold putS; exact List.drop_left' rfl
theorem cut_putS (h : right p) : cut (putS p) = p := by
  unfold cut
  rw [putS_id h, putS_version h, putS_many h, putS_drop]
  have h1 := h.1
  have h2 := h.2.1
  have e : (tailP p).take p.body.length = p.body := by unfold tailP; exact List.take_left' rfl
  rw [e]
  cases p with
  | mk i v b =>
    simp only at *
    congr 1 <;> omega
theorem putS_not (h : right p) : putS p ≠ List.replicate 32 0 := by
  intro e
  have h1 := putS_id h
  have h2 := h.1
  rw [e] at h1
  have : num (List.replicate 32 0) 0 = 0 := by decide +kernel
  omega
theorem took_put (h : right p) : took (putS p) = (p, 0) := by
  rw [took_good (putS_len h.2.2) (putS_not h) (by rw [putS_many h]; have := h.2.2; omega) ⟨by rw [cut_putS h]; exact h, by rw [cut_putS h]⟩, cut_putS h]
section
variable {P : Program} {F : Nat → Nat}
end
end Lk.S02
namespace Lk.S02
open Go Lk Lk.C Lk.S01
section
variable {P : Program} {F : Nat → Nat}
theorem pg_eq {p q : Pg} : (decide (p.id = q.id) && (decide (p.version = q.version) && decide (p.body = q.body))) = decide (p = q) := by
  rw [Bool.eq_iff_iff]
  simp only [Bool.and_eq_true, decide_eq_true_eq]
  constructor
  · rintro ⟨a, b, c⟩; cases p; cases q; simp only at a b c; subst a; subst b; subst c; rfl
  · rintro rfl; exact ⟨rfl, rfl, rfl⟩
end
end Lk.S02
