/-
  The abstract machine, part 25: loops and calls, as they are used.
-/
import Derived.Test.YtbfhhfbblnkdhaaLk24
namespace Lk
open Go Go.RowKit

def frL : List (Nat × AV) → Nat → AV
  | [], _ => .undef
  | (k, v) :: r, j => bif Nat.beq j k then v else frL r j

def hpL : List (Nat × Ent) → Nat → Option Ent
  | [], _ => none
  | (s, e) :: r, j => bif Nat.beq j s then some e else hpL r j

/-- A state of these slots and entries. -/
def stL (l : List (Nat × AV)) (h : List (Nat × Ent)) : St := ⟨frL l, hpL h, fun _ => 0⟩

theorem SubV.none {c : Nat → Nat} (v : AV) : SubV c v .undef := by cases v <;> exact trivial

def AllF (c : Nat → Nat) (fr : Nat → AV) : List (Nat × AV) → Prop
  | [] => True
  | (k, v) :: r => SubV c (fr k) v ∧ AllF c fr r

def AllH (c : Nat → Nat) (hp : Nat → Option Ent) : List (Nat × Ent) → Prop
  | [] => True
  | (s, e) :: r => (∃ e0, hp s = some e0 ∧ SubE c e0 e) ∧ AllH c hp r

theorem AllF.get {c : Nat → Nat} {fr : Nat → AV} : ∀ {l : List (Nat × AV)}, AllF c fr l → ∀ k, SubV c (fr k) (frL l k)
  | [], _, k => SubV.none _
  | (j, v) :: r, h, k => by
    simp only [frL]
    by_cases hk : k = j
    · subst hk; simp; exact h.1
    · rw [beq_ne hk]; exact h.2.get k

theorem AllH.get {c : Nat → Nat} {hp : Nat → Option Ent} : ∀ {l : List (Nat × Ent)}, AllH c hp l → ∀ s e', hpL l s = some e' → ∃ e, hp s = some e ∧ SubE c e e'
  | [], _, s, e', h => by cases h
  | (j, e) :: r, h, s, e', he => by
    simp only [hpL] at he
    by_cases hk : s = j
    · subst hk
      simp at he
      subst he
      exact h.1
    · rw [beq_ne hk] at he
      exact h.2.get s e' he

theorem Le.of {st : St} {l : List (Nat × AV)} {h : List (Nat × Ent)} (hf : AllF st.gc st.fr l) (hh : AllH st.gc st.hp h) : Le st (stL l h) :=
  LeC.le (c := st.gc) ⟨fun s => by simp [stL], hf.get, hh.get⟩

/-- A loop: what is said of its state at each round's head; what the rounds count down. What comes behind it stands apart (Q'). -/
theorem LoopVC.of {X : Type} {st : St} {body : (AX → St → Prop) → St → Prop} {Q : AX → St → Prop} (S : X → St) (mu : X → Nat) (x0 : X) (h0 : Le st (S x0))
    (h : ∀ Q' : AX → St → Prop, (∀ e st, Q e st → Q' e st) → ∀ x, body (fun e st' => match e with
      | .normal => LoopEnd (∃ x', mu x' < mu x ∧ Le st' (S x'))
      | .exit id => Out (Q' (.exit id)) st'
      | .ret => Out (Q' .ret) st') (S x)) : LoopVC st body Q := ⟨X, S, mu, ⟨x0, h0⟩, h Q fun _ _ h => h⟩

/-- Pure data as entries. -/
theorem SubE.dat {c : Nat → Nat} {size n : Nat} {f g : Nat → Nat → Cell} {fz ap : Bool} (h : ∀ i, i < n → ∀ j, j < size → CEq (f i j) (g i j)) : SubE c ⟨size, n, .dat f, fz, ap⟩ ⟨size, n, .dat g, fz, ap⟩ :=
  ⟨rfl, rfl, id, id, fun i hi j hj => h i hi j hj⟩

theorem CEq.slice {size n : Nat} {f g : Nat → Nat → Cell} (h : ∀ i, i < n → ∀ j, j < size → CEq (f i j) (g i j)) : CEq (.sl size n f) (.sl size n g) := ⟨size, g, rfl, fun _ => ⟨rfl, h⟩⟩

/-! Numbers of 32 bits. -/

theorem wrap_u32 (z : BitVec 32) : wrapI .u32 (z.toNat : Int) = (z.toNat : Int) := by
  have := z.isLt
  simp [wrapI_eq, IntKind.wrap, IntKind.signed, IntKind.bits]
  omega
theorem wrap_u32' (n : Int) : wrapI .u32 n = ((BitVec.ofInt 32 n).toNat : Int) := by
  simp [wrapI_eq, IntKind.wrap, IntKind.signed, IntKind.bits, BitVec.toNat_ofInt]
  omega
theorem wrap_u8 (z : BitVec 8) : wrapI .u8 (z.toNat : Int) = (z.toNat : Int) := by
  have := z.isLt
  simp [wrapI_eq, IntKind.wrap, IntKind.signed, IntKind.bits]
  omega
theorem wrap_u8_32 (z : BitVec 32) : wrapI .u8 (z.toNat : Int) = ((z.setWidth 8).toNat : Int) := by
  simp [wrapI_eq, IntKind.wrap, IntKind.signed, IntKind.bits]
theorem xor_u32 (x y : BitVec 32) : bitI .xor .u32 (x.toNat : Int) (y.toNat : Int) = ((x ^^^ y).toNat : Int) := by
  simp only [bitI_eq, bitI0, ← wrapI_eq, IntKind.bits, BitVec.ofInt_natCast, BitVec.ofNat_toNat, BitVec.setWidth_eq]
  exact wrap_u32 _
theorem and_u32 (x y : BitVec 32) : bitI .and .u32 (x.toNat : Int) (y.toNat : Int) = ((x &&& y).toNat : Int) := by
  simp only [bitI_eq, bitI0, ← wrapI_eq, IntKind.bits, BitVec.ofInt_natCast, BitVec.ofNat_toNat, BitVec.setWidth_eq]
  exact wrap_u32 _
theorem xor_u8 (x y : BitVec 8) : bitI .xor .u8 (x.toNat : Int) (y.toNat : Int) = ((x ^^^ y).toNat : Int) := by
  simp only [bitI_eq, bitI0, ← wrapI_eq, IntKind.bits, BitVec.ofInt_natCast, BitVec.ofNat_toNat, BitVec.setWidth_eq]
  exact wrap_u8 _
theorem shr_u32 (x : BitVec 32) (k : Nat) (hk : k ≤ 32) : shrI .u32 (x.toNat : Int) (k : Int) = ((x >>> k).toNat : Int) := by
  have h1 : min (k : Int).toNat IntKind.u32.bits = k := by simp [IntKind.bits]; omega
  simp only [shrI_eq, h1]
  rw [Int.fdiv_eq_ediv_of_nonneg _ (by exact Int.pow_nonneg (by omega))]
  simp [Nat.shiftRight_eq_div_pow]
theorem com_u32 (x : BitVec 32) : comI .u32 (x.toNat : Int) = ((~~~ x).toNat : Int) := by
  have h : (bif IntKind.u32.signed then -1 else IntKind.u32.max : Int) = ((BitVec.allOnes 32).toNat : Int) := by simp [IntKind.signed, IntKind.max, IntKind.bits]
  rw [comI_eq, h, ← bitI_eq, xor_u32]
  congr 2

end Lk
