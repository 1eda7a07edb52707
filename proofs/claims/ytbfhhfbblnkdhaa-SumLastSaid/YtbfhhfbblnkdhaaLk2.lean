/-
  The abstract machine, part 2: its operations and code, and what must hold ahead of them (reckoned by unfolding).
-/
import Derived.Test.YtbfhhfbblnkdhaaLk1
namespace Lk
open Go Go.RowKit
noncomputable section

structure Need {α : Type} (p : Prop) (m : (α → Prop) → Prop) (K : α → Prop) : Prop where
  l : p
  r : m K

/-- What a guard says; it is said of a value that was reckoned under one. -/
structure NeedI {α : Type} (c p : Prop) (m : (α → Prop) → Prop) (K : α → Prop) : Prop where
  l : c → p
  r : m K

/-- A value under conditions, or none. -/
inductive M (α : Type) where
  | no
  | ret (x : α)
  | need (p : Prop) (m : M α)
  | imp (c p : Prop) (m : M α)

def M.bind {α β : Type} : M α → (α → M β) → M β
  | .no, _ => .no
  | .ret x, f => f x
  | .need p m, f => .need p (m.bind f)
  | .imp c p m, f => .imp c p (m.bind f)

def M.run {α : Type} : M α → (α → Prop) → Prop
  | .no => fun _ => False
  | .ret x => fun K => K x
  | .need p m => Need p m.run
  | .imp c p m => NeedI c p m.run

/-- Constants. -/
inductive Cst where
  | int (k : IntKind) (n : Int)
  | bool (b : Bool)
  | str (s : List UInt8)
  | nil (size : Nat)
  | fn (f : Nat)

def Cst.av : Cst → AV
  | .int k n => .c (.int k n)
  | .bool b => .c (.bool b)
  | .str s => .c (.str s)
  | .nil z => .nil z
  | .fn f => .c (.fn f)

def Cst.cell : Cst → Cell
  | .int k n => .int k n
  | .bool b => .bool b
  | .str s => .str s
  | .nil z => .sl z 0 fun _ _ => .bool false
  | .fn f => .fn f

inductive Opd where
  | t (k : Nat)
  | k (c : Cst)

def opd (fr : Nat → AV) : Opd → AV
  | .t k => fr k
  | .k c => c.av

def ktag : IntKind → Nat
  | .i8 => 0 | .i16 => 1 | .i32 => 2 | .i64 => 3 | .u8 => 4 | .u16 => 5 | .u32 => 6 | .u64 => 7

def isK (k k' : IntKind) : Bool := Nat.beq (ktag k) (ktag k')

def rng : IntKind → Int → Prop
  | .i8, n => -128 ≤ n ∧ n ≤ 127
  | .i16, n => -32768 ≤ n ∧ n ≤ 32767
  | .i32, n => -2147483648 ≤ n ∧ n ≤ 2147483647
  | .i64, n => -9223372036854775808 ≤ n ∧ n ≤ 9223372036854775807
  | .u8, n => 0 ≤ n ∧ n ≤ 255
  | .u16, n => 0 ≤ n ∧ n ≤ 65535
  | .u32, n => 0 ≤ n ∧ n ≤ 4294967295
  | .u64, n => 0 ≤ n ∧ n ≤ 18446744073709551615

/-- Operations that make a value of slots (and of memory), and change nothing. -/
inductive POp where
  | mov (x : Opd)
  | por (c b : Opd)
  | pand (c b : Opd)
  | build (n : Nat) (z : List Cst) (parts : List (Nat × Nat × Opd))
  | load1 (x : Opd)
  | loadA (m : Nat) (x : Opd)
  | loadR (m : Nat) (x : Opd)
  | field (off : Nat) (x : Opd)
  | ixS (size : Nat) (x i : Opd)
  | ixA (size len : Nat) (x i : Opd)
  | nilc (x : Opd)
  | bin (o : BinOp) (chk : Bool) (x y : Opd)
  | eqA (neg : Bool) (ts : List Nat) (x y : Opd)
  | eqB (neg : Bool) (x y : Opd)
  | not (x : Opd)
  | com (x : Opd)
  | conv (chk : Bool) (k : IntKind) (x : Opd)
  | b2s (x : Opd)
  | slT (x : Opd) (lo hi : Option Opd)
  | slS (size : Nat) (x : Opd) (lo hi : Option Opd)
  | slA (size len : Nat) (x : Opd)
  | idx (x i : Opd)
  | idxA (len : Nat) (x i : Opd)
  | lenS (x : Opd)
  | lenT (x : Opd)
  | lenK (n : Nat)
  | mm (mx : Bool) (x : Opd) (xs : List Opd)
  | extr (i : Nat) (x : Opd)

/-- All operations; the slot that is written stands beside. keep: own slices that are stored stay own. -/
inductive AOp where
  | val (p : POp)
  | alloc (size : Nat) (z : List Cst)
  | allocR (rows size : Nat) (z : List Cst)
  | box (size : Nat) (x : Opd)
  | boxR (n : Nat) (x : Opd)
  | buildS (size len : Nat) (z : List Cst) (parts : List (Nat × Opd))
  | mk (size bytes : Nat) (z : List Cst) (n : Opd)
  | s2b (x : Opd)
  | app (size bytes : Nat) (x y : Opd)
  | st1 (keep : Bool) (x v : Opd)
  | stA (keep : Bool) (m : Nat) (x v : Opd)
  | stR (m : Nat) (x v : Opd)
  | call (f : Nat) (args : List Opd)
  | callv (x : Opd) (args : List Opd)
  | halt

structure AOper where
  d : Option Nat
  op : AOp
  gd : Option (Nat × Bool)

/-- Arguments as pure data; results; a result's slice may be the caller's own. -/
inductive PV where
  | one (x : Cell)
  | many (n : Nat) (f : Nat → Cell)

inductive RCell where
  | im (x : Cell)
  | ow (size n : Nat) (f : Nat → Nat → Cell)

inductive RV where
  | one (x : RCell)
  | many (n : Nat) (f : Nat → RCell)

/-! ### Reading operands -/

def rdv (cnd : Prop) (v : AV) : M AV :=
  match v with
  | .may p x => .imp cnd p (.ret x)
  | .undef => .ret .undef
  | .c x => .ret (.c x)
  | .nil z => .ret (.nil z)
  | .os s q size off len => .ret (.os s q size off len)
  | .va s q col => .ret (.va s q col)
  | .ra s q size row col => .ret (.ra s q size row col)
  | .ip n f col => .ret (.ip n f col)
  | .agg n f => .ret (.agg n f)
  | .tup n f => .ret (.tup n f)

def rd (cnd : Prop) (fr : Nat → AV) (x : Opd) : M AV := rdv cnd (opd fr x)

def asI {α : Type} (v : AV) (K : IntKind → Int → M α) : M α :=
  match v with
  | .c (.int k n) => K k n
  | _ => .no

def asB {α : Type} (v : AV) (K : Bool → M α) : M α :=
  match v with
  | .c (.bool b) => K b
  | _ => .no

def asS {α : Type} (v : AV) (K : List UInt8 → M α) : M α :=
  match v with
  | .c (.str b) => K b
  | _ => .no

def iff' {α : Type} (b : Bool) (m : M α) : M α := bif b then m else .no

/-! ### Numbers -/

def bitI0 (o : BinOp) (k : IntKind) (a b : Int) : Int :=
  k.wrap (match o with
    | .and => (BitVec.ofInt k.bits a &&& BitVec.ofInt k.bits b).toNat
    | .or => (BitVec.ofInt k.bits a ||| BitVec.ofInt k.bits b).toNat
    | .xor => (BitVec.ofInt k.bits a ^^^ BitVec.ofInt k.bits b).toNat
    | _ => (BitVec.ofInt k.bits a &&& ~~~ BitVec.ofInt k.bits b).toNat)

/-- What is reckoned by name only, lest a proof's reading of it runs away into its digits. -/
structure Arith where
  bit : BinOp → IntKind → Int → Int → Int
  shl : IntKind → Int → Int → Int
  shr : IntKind → Int → Int → Int
  wrap : IntKind → Int → Int
  com : IntKind → Int → Int

def arith0 : Arith := ⟨bitI0, fun k a b => k.wrap (a * 2 ^ (min b.toNat k.bits)), fun k a b => a.fdiv (2 ^ (min b.toNat k.bits)), fun k n => k.wrap n,
  fun k n => bitI0 .xor k (bif k.signed then -1 else k.max) n⟩

noncomputable def arithC : {A : Arith // A = arith0} := Classical.choice ⟨⟨arith0, rfl⟩⟩
noncomputable def bitI (o : BinOp) (k : IntKind) (a b : Int) : Int := arithC.1.bit o k a b
noncomputable def shlI (k : IntKind) (a b : Int) : Int := arithC.1.shl k a b
noncomputable def shrI (k : IntKind) (a b : Int) : Int := arithC.1.shr k a b
noncomputable def wrapI (k : IntKind) (n : Int) : Int := arithC.1.wrap k n
noncomputable def comI (k : IntKind) (n : Int) : Int := arithC.1.com k n
theorem bitI_eq (o : BinOp) (k : IntKind) (a b : Int) : bitI o k a b = bitI0 o k a b := by unfold bitI; rw [arithC.2]; rfl
theorem shlI_eq (k : IntKind) (a b : Int) : shlI k a b = k.wrap (a * 2 ^ (min b.toNat k.bits)) := by unfold shlI; rw [arithC.2]; rfl
theorem shrI_eq (k : IntKind) (a b : Int) : shrI k a b = a.fdiv (2 ^ (min b.toNat k.bits)) := by unfold shrI; rw [arithC.2]; rfl
theorem wrapI_eq (k : IntKind) (n : Int) : wrapI k n = k.wrap n := by unfold wrapI; rw [arithC.2]; rfl
theorem comI_eq (k : IntKind) (n : Int) : comI k n = bitI0 .xor k (bif k.signed then -1 else k.max) n := by unfold comI; rw [arithC.2]; rfl

def rI (k : IntKind) (n : Int) : M AV := .ret (.c (.int k n))
def rB (b : Bool) : M AV := .ret (.c (.bool b))

/-- chk: the sum is in its kind's range (a condition); else it is wrapped. -/
def binI (o : BinOp) (chk : Bool) (k : IntKind) (a b : Int) : M AV :=
  match o with
  | .add => bif chk then .need (rng k (a + b)) (rI k (a + b)) else rI k (wrapI k (a + b))
  | .sub => bif chk then .need (rng k (a - b)) (rI k (a - b)) else rI k (wrapI k (a - b))
  | .mul => bif chk then .need (rng k (a * b)) (rI k (a * b)) else rI k (wrapI k (a * b))
  | .quo => .need (0 ≤ a ∧ 0 < b) (.need (rng k (a / b)) (rI k (a / b)))
  | .rem => .need (0 ≤ a ∧ 0 < b) (rI k (a % b))
  | .and => rI k (bitI .and k a b)
  | .or => rI k (bitI .or k a b)
  | .xor => rI k (bitI .xor k a b)
  | .eql => rB (decide (a = b))
  | .neq => rB (!decide (a = b))
  | .lss => rB (decide (a < b))
  | .leq => rB (decide (a ≤ b))
  | .gtr => rB (decide (b < a))
  | .geq => rB (decide (b ≤ a))
  | _ => .no

def binA (o : BinOp) (chk : Bool) (k : IntKind) (a : Int) (k' : IntKind) (b : Int) : M AV :=
  match o with
  | .shl => .need (0 ≤ b) (rI k (shlI k a b))
  | .shr => .need (0 ≤ b) (rI k (shrI k a b))
  | .add => iff' (isK k k') (binI .add chk k a b)
  | .sub => iff' (isK k k') (binI .sub chk k a b)
  | .mul => iff' (isK k k') (binI .mul chk k a b)
  | .quo => iff' (isK k k') (binI .quo chk k a b)
  | .rem => iff' (isK k k') (binI .rem chk k a b)
  | .and => iff' (isK k k') (binI .and chk k a b)
  | .or => iff' (isK k k') (binI .or chk k a b)
  | .xor => iff' (isK k k') (binI .xor chk k a b)
  | .eql => iff' (isK k k') (binI .eql chk k a b)
  | .neq => iff' (isK k k') (binI .neq chk k a b)
  | .lss => iff' (isK k k') (binI .lss chk k a b)
  | .leq => iff' (isK k k') (binI .leq chk k a b)
  | .gtr => iff' (isK k k') (binI .gtr chk k a b)
  | .geq => iff' (isK k k') (binI .geq chk k a b)
  | _ => .no

def binS (o : BinOp) (a b : List UInt8) : M AV :=
  match o with
  | .add => .need (a.length + b.length ≤ 1000000000000) (.ret (.c (.str (a ++ b))))
  | .eql => rB (decide (a = b))
  | .neq => rB (!decide (a = b))
  | _ => .no

def bin (o : BinOp) (chk : Bool) (x y : AV) : M AV :=
  match x with
  | .c (.int k a) => asI y fun k' b => binA o chk k a k' b
  | .c (.str a) => asS y fun b => binS o a b
  | _ => .no

/-- Two cells of a leaf's kind (0: a number, 1: a bool, 2: a string): equal? -/
def eqC (t : Nat) (x y : AV) : M Bool :=
  match t with
  | 0 => asI x fun k a => asI y fun k' b => iff' (isK k k') (.ret (decide (a = b)))
  | 1 => asB x fun a => asB y fun b => .ret (a == b)
  | 2 => asS x fun a => asS y fun b => .ret (decide (a = b))
  | _ => .no

def eqCells : List Nat → Nat → (Nat → AV) → (Nat → AV) → M Bool
  | [], _, _, _ => .ret true
  | t :: r, j, f, g => (eqC t (f j) (g j)).bind fun b => match r with
    | [] => .ret b
    | _ :: _ => (eqCells r (j + 1) f g).bind fun c => .ret (b && c)

def avs : List Cst → Nat → AV
  | [], _ => .undef
  | c :: _, 0 => c.av
  | _ :: r, j + 1 => avs r j

def cells : List Cst → Nat → Cell
  | [], _ => .bool false
  | c :: _, 0 => c.cell
  | _ :: r, j + 1 => cells r j

def isOne {α : Type} (v : AV) (m : M α) : M α :=
  match v with
  | .c _ => m
  | .nil _ => m
  | .os .. => m
  | .va .. => m
  | .ra .. => m
  | _ => .no

def toU8 (x : Cell) : UInt8 :=
  match x with
  | .int _ n => UInt8.ofNat n.toNat
  | _ => 0

def isU8 (x : Cell) : Prop :=
  match x with
  | .int .u8 _ => True
  | _ => False

/-- The entry of a live name. -/
def getE {α : Type} (hp : Nat → Option Ent) (gc : Nat → Nat) (s q : Nat) (f : Ent → M α) : M α :=
  iff' (Nat.beq q (gc s)) (match hp s with
  | some e => f e
  | none => .no)

def fillF (f : Nat → AV) (off n : Nat) (g : Nat → AV) : Nat → AV :=
  fun j => bif Nat.ble off j then (bif Nat.ble (off + n) j then f j else g (j - off)) else f j

/-- Parts of a struct laid into its cells. -/
def fillP (cnd : Prop) (fr : Nat → AV) : List (Nat × Nat × Opd) → (Nat → AV) → M (Nat → AV)
  | [], f => .ret f
  | (off, size, x) :: r, f => (rd cnd fr x).bind fun v =>
    match v with
    | .agg n g => iff' (Nat.beq n size) (fillP cnd fr r (fillF f off size g))
    | v => iff' (Nat.beq 1 size) (isOne v (fillP cnd fr r (fillF f off 1 fun _ => v)))

def varE {α : Type} (e : Ent) (col m : Nat) (f : (Nat → AV) → M α) : M α :=
  match e.c with
  | .var c => iff' (Nat.beq e.n 1 && Nat.ble (col + m) e.size) (f c)
  | _ => .no

def rowE {α : Type} (e : Ent) (size row col m : Nat) (x : M α) : M α :=
  iff' (Nat.beq e.size size && Nat.ble (col + m) size) (.need (row < e.n) x)

def load1 (hp : Nat → Option Ent) (gc : Nat → Nat) (v : AV) : M AV :=
  match v with
  | .va s q col => getE hp gc s q fun e => varE e col 1 fun c => .ret (c col)
  | .ra s q size row col => getE hp gc s q fun e => rowE e size row col 1 (.ret (e.c.at row col))
  | .ip n f col => iff' (Nat.ble (col + 1) n) (.ret (.c (f col)))
  | _ => .no

def loadA (hp : Nat → Option Ent) (gc : Nat → Nat) (m : Nat) (v : AV) : M AV :=
  match v with
  | .va s q col => getE hp gc s q fun e => varE e col m fun c => .ret (.agg m fun j => c (col + j))
  | .ra s q size row col => getE hp gc s q fun e => rowE e size row col m (.ret (.agg m fun j => e.c.at row (col + j)))
  | .ip n f col => iff' (Nat.ble (col + m) n) (.ret (.agg m fun j => .c (f (col + j))))
  | _ => .no

def loadR (hp : Nat → Option Ent) (gc : Nat → Nat) (m : Nat) (v : AV) : M AV :=
  match v with
  | .ra s q size row col => getE hp gc s q fun e => iff' (Nat.beq e.size 1 && Nat.beq size 1 && Nat.beq row 0 && Nat.beq col 0) (.need (m ≤ e.n) (.ret (.agg m fun j => e.c.at j 0)))
  | .ip n f col => iff' (Nat.ble (col + m) n) (.ret (.agg m fun j => .c (f (col + j))))
  | _ => .no

def ixS (size : Nat) (x : AV) (i : Int) : M AV :=
  match x with
  | .c (.sl sz n f) => iff' (Nat.beq sz size) (.need (0 ≤ i ∧ i < n) (.ret (.ip size (f i.toNat) 0)))
  | .os s q sz off len => iff' (Nat.beq sz size) (.need (0 ≤ i ∧ i < len) (.ret (.ra s q size (off + i.toNat) 0)))
  | .nil _ => .need False .no
  | _ => .no

def ixA (size len : Nat) (x : AV) (i : Int) : M AV :=
  match x with
  | .ra s q sz row col => iff' (Nat.beq sz size && Nat.beq row 0 && Nat.beq col 0) (.need (0 ≤ i ∧ i < len) (.ret (.ra s q size i.toNat 0)))
  | .ip n f col => iff' (Nat.beq size 1) (.need (0 ≤ i ∧ i < len) (.ret (.ip n f (col + i.toNat))))
  | _ => .no

def fieldP (off : Nat) (x : AV) : M AV :=
  match x with
  | .va s q col => .ret (.va s q (col + off))
  | .ra s q size row col => .ret (.ra s q size row (col + off))
  | .ip n f col => .ret (.ip n f (col + off))
  | _ => .no

def optI {α : Type} (cnd : Prop) (fr : Nat → AV) (x : Option Opd) (K : Option Int → M α) : M α :=
  match x with
  | none => K none
  | some x => (rd cnd fr x).bind fun v => asI v fun _ n => K (some n)

def slT (l : List UInt8) (lo hi : Option Int) : M AV :=
  match lo, hi with
  | none, none => .ret (.c (.str l))
  | none, some h => .need (0 ≤ h ∧ h ≤ l.length) (.ret (.c (.str (l.take h.toNat))))
  | some a, none => .need (0 ≤ a ∧ a ≤ l.length) (.ret (.c (.str (l.drop a.toNat))))
  | some a, some h => .need (0 ≤ a ∧ a ≤ h ∧ h ≤ l.length) (.ret (.c (.str ((l.take h.toNat).drop a.toNat))))

def slS (size : Nat) (x : AV) (lo hi : Option Int) : M AV :=
  match x with
  | .c (.sl sz n f) => iff' (Nat.beq sz size) (
      match lo, hi with
      | none, none => .ret (.c (.sl size n f))
      | none, some h => .need (0 ≤ h ∧ h ≤ n) (.ret (.c (.sl size h.toNat f)))
      | some a, none => .need (0 ≤ a ∧ a ≤ n) (.ret (.c (.sl size (n - a.toNat) fun i => f (a.toNat + i))))
      | some a, some h => .need (0 ≤ a ∧ a ≤ h ∧ h ≤ n) (.ret (.c (.sl size (h.toNat - a.toNat) fun i => f (a.toNat + i)))))
  | .os s q sz off len => iff' (Nat.beq sz size) (
      match lo, hi with
      | none, none => .ret (.os s q size off len)
      | none, some h => .need (0 ≤ h ∧ h ≤ len) (.ret (.os s q size off h.toNat))
      | some a, none => .need (0 ≤ a ∧ a ≤ len) (.ret (.os s q size (off + a.toNat) (len - a.toNat)))
      | some a, some h => .need (0 ≤ a ∧ a ≤ h ∧ h ≤ len) (.ret (.os s q size (off + a.toNat) (h.toNat - a.toNat))))
  | _ => .no

def slA (hp : Nat → Option Ent) (gc : Nat → Nat) (size len : Nat) (x : AV) : M AV :=
  match x with
  | .ra s q sz row col => getE hp gc s q fun e => iff' (Nat.beq sz size && Nat.beq row 0 && Nat.beq col 0 && Nat.beq e.size size) (.need (e.n = len) (.ret (.os s q size 0 len)))
  | _ => .no

def lenV (x : AV) : M AV :=
  match x with
  | .c (.sl _ n _) => rI .i64 n
  | .nil _ => rI .i64 0
  | .os _ _ _ _ len => rI .i64 len
  | _ => .no

def mmL (cnd : Prop) (fr : Nat → AV) (mx : Bool) (k : IntKind) : Int → List Opd → M AV
  | a, [] => rI k a
  | a, x :: r => (rd cnd fr x).bind fun v => asI v fun _ b => mmL cnd fr mx k (bif mx then max a b else min a b) r

def bytesOf (n : Nat) (f : Nat → Cell) : List UInt8 := (List.range n).map fun i => toU8 (f i)

def b2s (hp : Nat → Option Ent) (gc : Nat → Nat) (x : AV) : M AV :=
  match x with
  | .nil _ => .ret (.c (.str []))
  | .c (.sl sz n f) => iff' (Nat.beq sz 1) (.need (∀ i, i < n → isU8 (f i 0)) (.ret (.c (.str (bytesOf n fun i => f i 0)))))
  | .os s q sz off len => getE hp gc s q fun e => iff' (Nat.beq e.size 1 && Nat.beq sz 1) (.need (off + len ≤ e.n) (
      match e.c with
      | .dat c => .need (∀ i, i < len → isU8 (c (off + i) 0)) (.ret (.c (.str (bytesOf len fun i => c (off + i) 0))))
      | _ => .no))
  | _ => .no

def eqA (neg : Bool) (ts : List Nat) (v w : AV) : M AV :=
  match v with
  | .agg m f => match w with
    | .agg m' g => iff' (Nat.beq m ts.length && Nat.beq m' ts.length) ((eqCells ts 0 f g).bind fun b => rB (bif neg then !b else b))
    | _ => .no
  | _ => .no

/-- The value of an operation. -/
def pv (hp : Nat → Option Ent) (gc : Nat → Nat) (cnd : Prop) (fr : Nat → AV) (p : POp) : M AV :=
  match p with
  | .mov x => rd cnd fr x
  | .por c b => (rd cnd fr c).bind fun v => asB v fun x => (rd (cnd ∧ x = false) fr b).bind fun w => asB w fun y => rB (x || y)
  | .pand c b => (rd cnd fr c).bind fun v => asB v fun x => (rd (cnd ∧ x = true) fr b).bind fun w => asB w fun y => rB (x && y)
  | .build n z parts => (fillP cnd fr parts (avs z)).bind fun f => .ret (.agg n f)
  | .load1 x => (rd cnd fr x).bind fun v => load1 hp gc v
  | .loadA m x => (rd cnd fr x).bind fun v => loadA hp gc m v
  | .loadR m x => (rd cnd fr x).bind fun v => loadR hp gc m v
  | .field off x => (rd cnd fr x).bind fun v => fieldP off v
  | .ixS size x i => (rd cnd fr x).bind fun v => (rd cnd fr i).bind fun w => asI w fun _ n => ixS size v n
  | .ixA size len x i => (rd cnd fr x).bind fun v => (rd cnd fr i).bind fun w => asI w fun _ n => ixA size len v n
  | .nilc x => (rd cnd fr x).bind fun v => fieldP 0 v
  | .bin o chk x y => (rd cnd fr x).bind fun v => (rd cnd fr y).bind fun w => bin o chk v w
  | .eqA neg ts x y => (rd cnd fr x).bind fun v => (rd cnd fr y).bind fun w => eqA neg ts v w
  | .eqB neg x y => (rd cnd fr x).bind fun v => asB v fun a => (rd cnd fr y).bind fun w => asB w fun b => rB (bif neg then !(a == b) else a == b)
  | .not x => (rd cnd fr x).bind fun v => asB v fun b => rB (!b)
  | .com x => (rd cnd fr x).bind fun v => asI v fun k n => rI k (comI k n)
  | .conv chk k x => (rd cnd fr x).bind fun v => asI v fun _ n => bif chk then .need (rng k n) (rI k n) else rI k (wrapI k n)
  | .b2s x => (rd cnd fr x).bind fun v => b2s hp gc v
  | .slT x lo hi => (rd cnd fr x).bind fun v => asS v fun l => optI cnd fr lo fun a => optI cnd fr hi fun b => slT l a b
  | .slS size x lo hi => (rd cnd fr x).bind fun v => optI cnd fr lo fun a => optI cnd fr hi fun b => slS size v a b
  | .slA size len x => (rd cnd fr x).bind fun v => slA hp gc size len v
  | .idx x i => (rd cnd fr x).bind fun v => asS v fun l => (rd cnd fr i).bind fun w => asI w fun _ n => .need (0 ≤ n ∧ n < l.length) (rI .u8 (l.getD n.toNat 0).toNat)
  | .idxA len x i => (rd cnd fr x).bind fun v => (rd cnd fr i).bind fun w => asI w fun _ n =>
    match v with
    | .agg m f => iff' (Nat.ble len m) (.need (0 ≤ n ∧ n < len) (.ret (f n.toNat)))
    | _ => .no
  | .lenS x => (rd cnd fr x).bind fun v => lenV v
  | .lenT x => (rd cnd fr x).bind fun v => asS v fun l => rI .i64 l.length
  | .lenK n => rI .i64 n
  | .mm mx x xs => (rd cnd fr x).bind fun v => asI v fun k n => mmL cnd fr mx k n xs
  | .extr i x => (rd cnd fr x).bind fun v =>
    match v with
    | .tup n f => iff' (Nat.ble (i + 1) n) (.ret (f i))
    | _ => .no

/-! ### Changes -/

/-- What an operation changes: the value of its slot; entries; sites that have a new name. -/
structure Dl where
  v : AV
  hs : List (Nat × Ent)
  gs : List Nat

def setF (fr : Nat → AV) (d : Nat) (v : AV) : Nat → AV := fun k => bif Nat.beq k d then v else fr k
def putF (fr : Nat → AV) (d : Option Nat) (v : AV) : Nat → AV :=
  match d with
  | some d => setF fr d v
  | none => fr
def setH (hp : Nat → Option Ent) (s : Nat) (e : Ent) : Nat → Option Ent := fun k => bif Nat.beq k s then some e else hp k
def putH : List (Nat × Ent) → (Nat → Option Ent) → Nat → Option Ent
  | [], hp => hp
  | (s, e) :: r, hp => putH r (setH hp s e)
def bump (ga : Nat → Nat) (s : Nat) : Nat → Nat := fun k => bif Nat.beq k s then ga s + 1 else ga k
def putG : List Nat → (Nat → Nat) → Nat → Nat
  | [], ga => ga
  | s :: r, ga => putG r (bump ga s)

def St.app (st : St) (d : Option Nat) (x : Dl) : St := ⟨putF st.fr d x.v, putH x.hs st.hp, putG x.gs st.gc⟩

def Dl.val (v : AV) : Dl := ⟨v, [], []⟩

/-- A new own block at site d. -/
def Dl.new (d : Nat) (v : AV) (size n : Nat) (c : EC) (ap : Bool) : Dl := ⟨v, [(d, ⟨size, n, c, false, ap⟩)], [d]⟩

def updC {α : Type} (c : Nat → Nat → α) (row col : Nat) (v : α) : Nat → Nat → α :=
  fun i j => bif Nat.beq j col then (bif Nat.beq i row then v else c i j) else c i j

def updA {α : Type} (c : Nat → Nat → α) (row col m : Nat) (f : Nat → α) : Nat → Nat → α :=
  fun i j => bif Nat.ble col j then (bif Nat.ble (col + m) j then c i j else (bif Nat.beq i row then f (j - col) else c i j)) else c i j

def updV (c : Nat → AV) (col : Nat) (v : AV) : Nat → AV := fun j => bif Nat.beq j col then v else c j

def EC.upd1 (e : EC) (row col : Nat) (v : AV) : EC :=
  match e with
  | .var c => .var (updV c col v)
  | .dat c => match v with
    | .c x => .dat (updC c row col x)
    | v => .gen (updC (fun i j => .c (c i j)) row col v)
  | .gen c => .gen (updC c row col v)

def cellOf (v : AV) : Cell :=
  match v with
  | .c x => x
  | .nil z => .sl z 0 fun _ _ => .bool false
  | _ => .bool false

def isDat (v : AV) : Prop :=
  match v with
  | .c _ => True
  | .nil _ => True
  | _ => False

def appC {α : Type} (c : Nat → Nat → α) (len : Nat) (g : Nat → Nat → α) : Nat → Nat → α :=
  fun i j => bif Nat.ble len i then g (i - len) j else c i j

/-- A cell as pure data: its own slice is frozen. -/
def frzC (hp : Nat → Option Ent) (gc : Nat → Nat) (v : AV) : M (Cell × List (Nat × Ent)) :=
  match v with
  | .c x => .ret (x, [])
  | .nil z => .ret (.sl z 0 fun _ _ => .bool false, [])
  | .os s q size off len => getE hp gc s q fun e => iff' (Nat.beq e.size size) (.need (off + len ≤ e.n) (
      match e.c with
      | .dat c => .ret (.sl size len fun i j => c (off + i) j, [(s, { e with fz := true })])
      | .gen c => .need (∀ i, i < len → ∀ j, j < size → isDat (c (off + i) j)) (.ret (.sl size len fun i j => cellOf (c (off + i) j), [(s, { e with fz := true })]))
      | .var _ => .no))
  | _ => .no

def frzN (hp : Nat → Option Ent) (gc : Nat → Nat) : Nat → Nat → (Nat → AV) → M ((Nat → Cell) × List (Nat × Ent))
  | 0, _, _ => .ret (fun _ => .bool false, [])
  | m + 1, j, f => (frzC hp gc (f j)).bind fun x => (frzN (putH x.2 hp) gc m (j + 1) f).bind fun y =>
    .ret (fun i => match i with | 0 => x.1 | i + 1 => y.1 i, x.2 ++ y.2)

/-- A value to be stored. -/
def stoV (hp : Nat → Option Ent) (gc : Nat → Nat) (keep : Bool) (v : AV) : M (AV × List (Nat × Ent)) :=
  match v with
  | .os s q size off len => bif keep then .ret (.os s q size off len, []) else (frzC hp gc (.os s q size off len)).bind fun x => .ret (.c x.1, x.2)
  | .c x => .ret (.c x, [])
  | .nil z => bif keep then .ret (.nil z, []) else .ret (.c (.sl z 0 fun _ _ => .bool false), [])
  | _ => .no

def stoN (hp : Nat → Option Ent) (gc : Nat → Nat) (keep : Bool) : Nat → Nat → (Nat → AV) → M ((Nat → AV) × List (Nat × Ent))
  | 0, _, _ => .ret (fun _ => .undef, [])
  | m + 1, j, f => (stoV hp gc keep (f j)).bind fun x => (stoN (putH x.2 hp) gc keep m (j + 1) f).bind fun y =>
    .ret (fun i => match i with | 0 => x.1 | i + 1 => y.1 i, x.2 ++ y.2)

/-- Cells stored one by one. -/
def EC.updN (e : EC) (row col : Nat) : Nat → (Nat → AV) → EC
  | 0, _ => e
  | m + 1, f => EC.updN (e.upd1 row col (f 0)) row (col + 1) m fun j => f (j + 1)

/-- What is appended: how many, and the cells. -/
def srcV {α : Type} (hp : Nat → Option Ent) (gc : Nat → Nat) (size : Nat) (v : AV) (K : Nat → (Nat → Nat → Cell) → M α) : M α :=
  match v with
  | .nil _ => K 0 fun _ _ => .bool false
  | .c (.sl sz n f) => iff' (Nat.beq sz size) (K n f)
  | .os s q sz off len => getE hp gc s q fun e => iff' (Nat.beq e.size size && Nat.beq sz size) (.need (off + len ≤ e.n) (
      match e.c with
      | .dat c => K len fun i j => c (off + i) j
      | .gen c => .need (∀ i, i < len → ∀ j, j < size → isDat (c (off + i) j)) (K len fun i j => cellOf (c (off + i) j))
      | .var _ => .no))
  | _ => .no

def rowsL : List (Nat × (Nat → Cell)) → (Nat → Nat → Cell) → Nat → Nat → Cell
  | [], c, i, j => c i j
  | (r, f) :: l, c, i, j => bif Nat.beq i r then f j else rowsL l c i j

/-- The parts of a slice, as pure data. -/
def partsL (hp : Nat → Option Ent) (gc : Nat → Nat) (fr : Nat → AV) (size : Nat) : List (Nat × Opd) → M (List (Nat × (Nat → Cell)) × List (Nat × Ent))
  | [] => .ret ([], [])
  | (r, x) :: l => (rd True fr x).bind fun v => (match v with
    | .agg n f => iff' (Nat.beq n size) (frzN hp gc n 0 f)
    | v => iff' (Nat.beq 1 size) (frzN hp gc 1 0 fun _ => v)).bind fun y => (partsL (putH y.2 hp) gc fr size l).bind fun z => .ret ((r, y.1) :: z.1, y.2 ++ z.2)

def notVar (e : Ent) {α : Type} (m : M α) : M α :=
  match e.c with
  | .var _ => .no
  | .dat _ => m
  | .gen _ => m

def isUn (e : Ent) {α : Type} (m : M α) : M α := bif e.fz then .no else m

def Dl.var (st : St) (d size : Nat) (c : Nat → AV) : Dl := .new d (.va d (st.gc d + 1) 0) size 1 (.var c) true
def Dl.arr (st : St) (d size n : Nat) (c : Nat → Nat → AV) : Dl := .new d (.ra d (st.gc d + 1) size 0 0) size n (.gen c) true
def Dl.sli (st : St) (d size n : Nat) (c : EC) (ap : Bool) : Dl := .new d (.os d (st.gc d + 1) size 0 n) size n c ap

/-- An operation other than a call. -/
def eff (op : AOp) (d : Nat) (cnd : Prop) (st : St) : M Dl :=
  match op with
  | .val p => (pv st.hp st.gc cnd st.fr p).bind fun v => .ret (.val v)
  | .alloc size z => .ret (.var st d size (avs z))
  | .allocR rows size z => .ret (.arr st d size rows fun _ j => .c (cells z j))
  | .box size x => (rd True st.fr x).bind fun v => (match v with
    | .agg n f => iff' (Nat.beq n size) (.ret (.var st d size f))
    | v => iff' (Nat.beq 1 size) (isOne v (.ret (.var st d 1 fun _ => v))))
  | .boxR n x => (rd True st.fr x).bind fun v => (match v with
    | .agg m f => iff' (Nat.beq m n) (.ret (.arr st d 1 n fun i _ => f i))
    | _ => .no)
  | .buildS size len z parts => (partsL st.hp st.gc st.fr size parts).bind fun l =>
      .ret ⟨.os d (st.gc d + 1) size 0 len, l.2 ++ [(d, ⟨size, len, .dat (rowsL l.1 fun _ j => cells z j), false, true⟩)], [d]⟩
  | .mk size bytes z n => (rd True st.fr n).bind fun v => asI v fun _ n =>
      .need (0 ≤ n ∧ n * bytes ≤ 140737488355328 ∧ n ≤ 140737488355328) (.ret (.sli st d size n.toNat (.dat fun _ j => cells z j) true))
  | .s2b x => (rd True st.fr x).bind fun v => asS v fun l =>
      .need (l.length ≤ 140737488355328) <| .ret (.sli st d 1 l.length (.dat fun i _ => .int .u8 (l.getD i 0).toNat) false)
  | .app size bytes x y => (rd True st.fr x).bind fun v => (rd True st.fr y).bind fun u => srcV st.hp st.gc size u fun m g =>
      (match v with
      | .nil _ => .need (m * bytes ≤ 140737488355328 ∧ m ≤ 140737488355328) (.ret (.sli st d size m (.dat g) true))
      | .os s q sz off len => getE st.hp st.gc s q fun e => iff' (Nat.beq e.size size && Nat.beq sz size && e.ap) (isUn e (
            .need (off = 0 ∧ e.n = len) (.need ((len + m) * bytes ≤ 140737488355328 ∧ len + m ≤ 140737488355328)
              (match e.c with
                | .dat c => .ret (.sli st s size (len + m) (.dat (appC c len g)) true)
                | .gen c => .ret (.sli st s size (len + m) (.gen (appC c len fun i j => .c (g i j))) true)
                | .var _ => .no))))
      | _ => .no)
  | .st1 keep x v => (rd True st.fr x).bind fun p => (rd True st.fr v).bind fun v => (stoV st.hp st.gc keep v).bind fun u => (match p with
    | .va s q col => getE (putH u.2 st.hp) st.gc s q fun e => varE e col 1 fun _ => isUn e (.ret ⟨.undef, u.2 ++ [(s, { e with c := e.c.upd1 0 col u.1 })], []⟩)
    | .ra s q size row col => getE (putH u.2 st.hp) st.gc s q fun e => rowE e size row col 1 (notVar e <| isUn e (.ret ⟨.undef, u.2 ++ [(s, { e with c := e.c.upd1 row col u.1 })], []⟩))
    | _ => .no)
  | .stA keep m x v => (rd True st.fr x).bind fun p => (rd True st.fr v).bind fun v => (match v with
    | .agg n f => iff' (Nat.beq n m) ((stoN st.hp st.gc keep m 0 f).bind fun u => (match p with
      | .va s q col => getE (putH u.2 st.hp) st.gc s q fun e => varE e col m fun _ => isUn e (.ret ⟨.undef, u.2 ++ [(s, { e with c := e.c.updN 0 col m u.1 })], []⟩)
      | .ra s q size row col => getE (putH u.2 st.hp) st.gc s q fun e => rowE e size row col m (notVar e <| isUn e (.ret ⟨.undef, u.2 ++ [(s, { e with c := e.c.updN row col m u.1 })], []⟩))
      | _ => .no))
    | _ => .no)
  | .stR m x v => (rd True st.fr x).bind fun p => (rd True st.fr v).bind fun v => (match v with
    | .agg n f => iff' (Nat.beq n m) (match p with
      | .ra s q size row col => getE st.hp st.gc s q fun e => iff' (Nat.beq size 1 && Nat.beq e.size 1 && Nat.beq row 0 && Nat.beq col 0) (isUn e (.need (e.n = m)
          (.ret ⟨.undef, [(s, { e with c := .gen fun i _ => f i })], []⟩)))
      | _ => .no)
    | _ => .no)
  | .call .. => .no
  | .callv .. => .no
  | .halt => .no

/-! ### Calls -/

def RP (O : Nat → Prop) (w : World) : PV → Value → Prop
  | .one x, v => RC O w x v
  | .many n f, v => ∃ cs : Array Value, v = .agg cs ∧ cs.size = n ∧ ∀ j, j < n → ∃ u, cs[j]? = some u ∧ u.oneCell' = true ∧ RC O w (f j) u

/-- An own slice that is handed back: its block is b (none: it is nil). -/
def RO (O : Nat → Prop) (w : World) (B : Nat) (b : Option Nat) (size n : Nat) (f : Nat → Nat → Cell) (v : Value) : Prop :=
  (b = none ∧ n = 0 ∧ v = .slice none 0 0) ∨ ∃ b' o cap cs el, b = some b' ∧ B ≤ b' ∧ v = .slice (some ⟨b', o, none⟩) n cap ∧ n ≤ cap ∧ cap ≤ 9223372036854775807 ∧ (o + cap * size ≤ cs.size ∧ (0 < cap → o = 0)) ∧
    w.heap[b']? = some (.cells cs el (0, 0)) ∧ (∀ (i : Nat) (u : Value), cs[i]? = some u → u.oneCell' = true) ∧
    ∀ i, i < n → ∀ j, j < size → ∃ u, cs[i * size + j]? = some u ∧ RC O w (f i j) u

def RR1 (O : Nat → Prop) (B : Nat) (w : World) (b : Option Nat) : RCell → Value → Prop
  | .im x, v => RC O w x v
  | .ow size n f, v => RO O w B b size n f v

/-- A result's cells have places: 32 i and on. -/
def RR (O : Nat → Prop) (B : Nat) (w : World) (bl : Nat → Option Nat) (i : Nat) : RV → Value → Prop
  | .one x, v => v.oneCell' = true ∧ RR1 O B w (bl (32 * i)) x v
  | .many n f, v => ∃ cs : Array Value, v = .agg cs ∧ cs.size = n ∧ n ≤ 32 ∧ ∀ j, j < n → ∃ u, cs[j]? = some u ∧ u.oneCell' = true ∧ RR1 O B w (bl (32 * i + j)) (f j) u

def resVal : List RV → Array Value → Value → Prop
  | [_], vs, v => vs.size = 1 ∧ vs[0]? = some v
  | res, vs, v => vs.size = res.length ∧ v = .tuple vs

def RRes (O : Nat → Prop) (B : Nat) (w : World) (res : List RV) (v : Value) : Prop :=
  ∃ (vs : Array Value) (bl : Nat → Option Nat), resVal res vs v ∧
    (∀ t b, bl t = some b → B ≤ b ∧ b < w.heap.size) ∧ (∀ t t' b, bl t = some b → bl t' = some b → t = t') ∧
    ∀ (i : Nat) (r : RV), res[i]? = some r → ∃ u, vs[i]? = some u ∧ RR (fun b => O b ∨ ∃ t, bl t = some b) B w bl i r u

/-- A function of Go code. -/
def isGo (P : Program) (f : Nat) : Bool :=
  match P.funcs[f]? with
  | some fn => fn.body.isSome && !(fn.name == "runtime.NumGoroutine")
  | none => false

/-- The contract of function f at these arguments: it returns these results; what was there stays. -/
structure FnOk (P : Program) (f : Nat) (args : List PV) (res : List RV) : Prop where
  go : isGo P f = true
  calls : ∀ (O : Nat → Prop) (vs : Array Value) (w : World), (∀ b, O b → b < w.heap.size) → vs.size = args.length →
    (∀ (i : Nat) (p : PV), args[i]? = some p → ∃ u, vs[i]? = some u ∧ RP O w p u) →
    Calls P f vs w fun e w' => ∃ v, e = .returned v ∧ Below w.heap.size w w' ∧ RRes O w.heap.size w' res v

/-- Equal data: slices up to their lengths. -/
def CEq : Cell → Cell → Prop
  | .int k n, y => y = .int k n
  | .bool b, y => y = .bool b
  | .str s, y => y = .str s
  | .fn f, y => y = .fn f
  | .sl size n f, y => ∃ size' f', y = .sl size' n f' ∧ (0 < n → size' = size ∧ ∀ i, i < n → ∀ j, j < size → CEq (f i j) (f' i j))

inductive PVEq : PV → PV → Prop
  | one {x y : Cell} (h : CEq x y) : PVEq (.one x) (.one y)
  | many {n : Nat} {f g : Nat → Cell} (h : ∀ j, j < n → CEq (f j) (g j)) : PVEq (.many n f) (.many n g)

inductive PVsEq : List PV → List PV → Prop
  | nil : PVsEq [] []
  | cons {a b : PV} {r s : List PV} (h : PVEq a b) (t : PVsEq r s) : PVsEq (a :: r) (b :: s)

structure CallVC (cnd : Prop) (P : Program) (f : Nat) (args : List PV) (K : List RV → Prop) : Prop where
  out : ∃ args' res, (cnd → FnOk P f args' res) ∧ (cnd → PVsEq args args') ∧ K res

theorem CallVC.mk' {cnd : Prop} {P : Program} {f : Nat} {args args' : List PV} {res : List RV} {K : List RV → Prop}
    (h : cnd → FnOk P f args' res) (ha : cnd → PVsEq args args') (hk : K res) : CallVC cnd P f args K := ⟨args', res, h, ha, hk⟩

def argM (hp : Nat → Option Ent) (gc : Nat → Nat) (v : AV) : M (PV × List (Nat × Ent)) :=
  match v with
  | .agg n f => (frzN hp gc n 0 f).bind fun y => .ret (.many n y.1, y.2)
  | v => (frzC hp gc v).bind fun y => .ret (.one y.1, y.2)

def argsM (cnd : Prop) (hp : Nat → Option Ent) (gc : Nat → Nat) (fr : Nat → AV) : List Opd → M (List PV × List (Nat × Ent))
  | [] => .ret ([], [])
  | x :: r => (rd cnd fr x).bind fun v => (argM hp gc v).bind fun p => (argsM cnd (putH p.2 hp) gc fr r).bind fun l => .ret (p.1 :: l.1, p.2 ++ l.2)

/-- A result's place, as the name of its own block. -/
def site (d t : Nat) : Nat := d + 1000 * (t + 1)

def rcAV (gc : Nat → Nat) (d t : Nat) : RCell → AV
  | .im x => .c x
  | .ow size n _ => .os (site d t) (gc (site d t) + 1) size 0 n

def rcL (gc : Nat → Nat) (d : Nat) : Nat → Nat → (Nat → RCell) → Nat → AV
  | _, 0, _ => fun _ => .undef
  | t, m + 1, f => fun j => match j with
    | 0 => rcAV gc d t (f 0)
    | j + 1 => rcL gc d (t + 1) m (fun j => f (j + 1)) j

def rvAV (gc : Nat → Nat) (d i : Nat) : RV → AV
  | .one x => rcAV gc d (32 * i) x
  | .many n f => .agg n (rcL gc d (32 * i) n f)

def rvAt (gc : Nat → Nat) (d : Nat) : List RV → Nat → Nat → AV
  | [], _, _ => .undef
  | r :: _, i, 0 => rvAV gc d i r
  | _ :: l, i, j + 1 => rvAt gc d l (i + 1) j

def resAV (gc : Nat → Nat) (d : Nat) (res : List RV) : AV :=
  match res with
  | [] => .tup 0 fun _ => .undef
  | r :: l => match l with
    | [] => rvAV gc d 0 r
    | _ :: _ => .tup res.length fun i => rvAt gc d res 0 i

/-- The entries of a result's own slices. -/
def rcE (d t : Nat) (x : RCell) : List (Nat × Ent) :=
  match x with
  | .im _ => []
  | .ow size n f => [(site d t, ⟨size, n, .dat f, false, true⟩)]

def rcEs (d t : Nat) : Nat → (Nat → RCell) → List (Nat × Ent)
  | 0, _ => []
  | m + 1, f => rcE d t (f 0) ++ rcEs d (t + 1) m fun j => f (j + 1)

def rvE (d i : Nat) : RV → List (Nat × Ent)
  | .one x => rcE d (32 * i) x
  | .many n f => rcEs d (32 * i) n f

def rvEs (d : Nat) : Nat → List RV → List (Nat × Ent)
  | _, [] => []
  | i, r :: l => rvE d i r ++ rvEs d (i + 1) l

def sitesOf : List (Nat × Ent) → List Nat
  | [] => []
  | (s, _) :: r => s :: sitesOf r

/-- What a call changes: what its arguments froze; the results. -/
def callD (gc : Nat → Nat) (d : Nat) (hs : List (Nat × Ent)) (res : List RV) : Dl :=
  ⟨resAV gc d res, hs ++ rvEs d 0 res, sitesOf (rvEs d 0 res)⟩

/-! ### Steps -/

/-- A value laid open. -/
def frc (v : AV) (K : AV → Prop) : Prop :=
  match v with
  | .undef => K .undef
  | .c x => (match x with
    | .int k n => K (.c (.int k n))
    | .bool b => K (.c (.bool b))
    | .str s => K (.c (.str s))
    | .sl size n f => K (.c (.sl size n f))
    | .fn f => K (.c (.fn f)))
  | .nil z => K (.nil z)
  | .os s q size off len => K (.os s q size off len)
  | .va s q col => K (.va s q col)
  | .ra s q size row col => K (.ra s q size row col)
  | .ip n f col => K (.ip n f col)
  | .agg n f => K (.agg n f)
  | .tup n f => K (.tup n f)
  | .may p x => K (.may p x)

def isPure (x : Dl) {α : Type} (m : M α) : M α :=
  match x.hs with
  | [] => match x.gs with
    | [] => m
    | _ => .no
  | _ => .no

/-- Changes carried out, laid open. -/
def goH : List (Nat × Ent) → (Nat → Option Ent) → ((Nat → Option Ent) → Prop) → Prop
  | [], hp, K => K hp
  | (s, e) :: r, hp, K => goH r (setH hp s e) K

def goG : List Nat → (Nat → Nat) → ((Nat → Nat) → Prop) → Prop
  | [], gc, K => K gc
  | s :: r, gc, K => goG r (bump gc s) K

def goD (fr : Nat → AV) (hp : Nat → Option Ent) (gc : Nat → Nat) (d : Option Nat) (wr : AV → AV) (x : Dl) (K : St → Prop) : Prop :=
  match x with
  | ⟨v, hs, gs⟩ => goH hs hp fun hp => goG gs gc fun gc => match d with
    | some d => frc v fun v => K ⟨setF fr d (wr v), hp, gc⟩
    | none => K ⟨fr, hp, gc⟩

/-- A call. wr: what a guarded one's value is. -/
def callP (P : Program) (cnd : Prop) (gd : Bool) (wr : AV → AV) (d : Option Nat) (f : Nat) (args : List Opd) (fr : Nat → AV) (hp : Nat → Option Ent) (gc : Nat → Nat) (K : St → Prop) : Prop :=
  (argsM cnd hp gc fr args).run fun x => match x with
    | (pvs, hs) => CallVC cnd P f pvs fun res => (match d with
      | some d => bif gd then (isPure (callD gc d [] res) (.ret ())).run fun _ => goD fr hp gc (some d) wr ⟨resAV gc d res, hs, []⟩ K
          else goD fr hp gc (some d) wr (callD gc d hs res) K
      | none => False)

def isFn (v : AV) (K : Nat → Prop) : Prop :=
  match v with
  | .c (.fn f) => K f
  | _ => False

def effO (K : St → Prop) (op : AOp) (d : Option Nat) (fr : Nat → AV) (hp : Nat → Option Ent) (gc : Nat → Nat) : Prop :=
  match d with
  | some k => (eff op k True ⟨fr, hp, gc⟩).run fun x => goD fr hp gc (some k) (fun v => v) x K
  | none => (eff op 0 True ⟨fr, hp, gc⟩).run fun x => goD fr hp gc none (fun v => v) x K

def stepO (P : Program) (op : AOp) (d : Option Nat) (fr : Nat → AV) (hp : Nat → Option Ent) (gc : Nat → Nat) (K : St → Prop) : Prop :=
  match op with
  | .call f args => callP P True false (fun v => v) d f args fr hp gc K
  | .callv x args => (rd True fr x).run fun v => isFn v fun f => callP P True false (fun v => v) d f args fr hp gc K
  | op => effO K op d fr hp gc

def stepG (P : Program) (cnd : Prop) (wr : AV → AV) (op : AOp) (d : Option Nat) (fr : Nat → AV) (hp : Nat → Option Ent) (gc : Nat → Nat) (K : St → Prop) : Prop :=
  match op with
  | .val p => (pv hp gc cnd fr p).run fun v => goD fr hp gc d wr (.val v) K
  | .call f args => callP P cnd true wr d f args fr hp gc K
  | _ => False

def step (P : Program) (o : AOper) (st : St) (K : St → Prop) : Prop :=
  match st with
  | ⟨fr, hp, gc⟩ => match o with
    | ⟨d, op, gd⟩ => match gd with
      | none => stepO P op d fr hp gc K
      | some (g, want) => match fr g with
        | .c (.bool b) => stepG P (b = want) (.may (b = want)) op d fr hp gc K
        | .may p (.c (.bool b)) => stepG P (p ∧ b = want) (.may (p ∧ b = want)) op d fr hp gc K
        | _ => False

def stepL (P : Program) : List AOper → St → (St → Prop) → Prop
  | [], st, K => K st
  | o :: r, st, K => step P o st fun st' => stepL P r st' K

/-! ### Statements whose order is open -/

def AV.sites : AV → List Nat
  | .undef => []
  | .c _ => []
  | .nil _ => []
  | .os s _ _ _ _ => [s]
  | .va s _ _ => [s]
  | .ra s _ _ _ _ => [s]
  | .ip _ _ _ => []
  | .agg n f => (List.range n).flatMap fun j => (f j).sites
  | .tup n f => (List.range n).flatMap fun j => (f j).sites
  | .may _ v => v.sites

def Opd.slots : Opd → List Nat
  | .t i => [i]
  | .k _ => []

def oslots : Option Opd → List Nat
  | some x => x.slots
  | none => []

/-- The slots that an operation reads. -/
def POp.slots : POp → List Nat
  | .mov x => x.slots
  | .por c b => c.slots ++ b.slots
  | .pand c b => c.slots ++ b.slots
  | .build _ _ parts => parts.flatMap fun p => p.2.2.slots
  | .load1 x => x.slots
  | .loadA _ x => x.slots
  | .loadR _ x => x.slots
  | .field _ x => x.slots
  | .ixS _ x i => x.slots ++ i.slots
  | .ixA _ _ x i => x.slots ++ i.slots
  | .nilc x => x.slots
  | .bin _ _ x y => x.slots ++ y.slots
  | .eqA _ _ x y => x.slots ++ y.slots
  | .eqB _ x y => x.slots ++ y.slots
  | .not x => x.slots
  | .com x => x.slots
  | .conv _ _ x => x.slots
  | .b2s x => x.slots
  | .slT x lo hi => x.slots ++ oslots lo ++ oslots hi
  | .slS _ x lo hi => x.slots ++ oslots lo ++ oslots hi
  | .slA _ _ x => x.slots
  | .idx x i => x.slots ++ i.slots
  | .idxA _ x i => x.slots ++ i.slots
  | .lenS x => x.slots
  | .lenT x => x.slots
  | .lenK _ => []
  | .mm _ x xs => x.slots ++ xs.flatMap Opd.slots
  | .extr _ x => x.slots

def AOp.slots : AOp → List Nat
  | .val p => p.slots
  | .alloc _ _ => []
  | .allocR _ _ _ => []
  | .box _ x => x.slots
  | .boxR _ x => x.slots
  | .buildS _ _ _ parts => parts.flatMap fun p => p.2.slots
  | .mk _ _ _ n => n.slots
  | .s2b x => x.slots
  | .app _ _ x y => x.slots ++ y.slots
  | .st1 _ x v => x.slots ++ v.slots
  | .stA _ _ x v => x.slots ++ v.slots
  | .stR _ x v => x.slots ++ v.slots
  | .call _ args => args.flatMap Opd.slots
  | .callv x args => x.slots ++ args.flatMap Opd.slots
  | .halt => []

def AOper.slots (o : AOper) : List Nat :=
  match o.gd with
  | some (g, _) => g :: o.op.slots
  | none => o.op.slots

/-- The sites that these slots name. -/
def ment (fr : Nat → AV) (l : List Nat) : List Nat := l.flatMap fun k => (fr k).sites

def isVal : AOp → Bool
  | .val _ => true
  | _ => false

/-- The sites that an operation may look at. -/
def AOper.looks (o : AOper) (fr : Nat → AV) : List Nat :=
  ment fr o.slots ++ (bif isVal o.op then [] else [o.d.getD 0])

/-- As goD; K is told which sites are changed. -/
def goW (fr : Nat → AV) (hp : Nat → Option Ent) (gc : Nat → Nat) (d : Option Nat) (wr : AV → AV) (x : Dl) (K : St → List Nat → Prop) : Prop :=
  match x with
  | ⟨v, hs, gs⟩ => goH hs hp fun hp => goG gs gc fun gc => match d with
    | some d => frc v fun v => K ⟨setF fr d (wr v), hp, gc⟩ (sitesOf hs ++ gs)
    | none => K ⟨fr, hp, gc⟩ (sitesOf hs ++ gs)

def callW (P : Program) (cnd : Prop) (gd : Bool) (wr : AV → AV) (d : Option Nat) (f : Nat) (args : List Opd) (fr : Nat → AV) (hp : Nat → Option Ent) (gc : Nat → Nat) (K : St → List Nat → Prop) : Prop :=
  (argsM cnd hp gc fr args).run fun x => match x with
    | (pvs, hs) => CallVC cnd P f pvs fun res => (match d with
      | some d => bif gd then (isPure (callD gc d [] res) (.ret ())).run fun _ => goW fr hp gc (some d) wr ⟨resAV gc d res, hs, []⟩ K
          else goW fr hp gc (some d) wr (callD gc d hs res) K
      | none => False)

def effOW (K : St → List Nat → Prop) (op : AOp) (d : Option Nat) (fr : Nat → AV) (hp : Nat → Option Ent) (gc : Nat → Nat) : Prop :=
  match d with
  | some k => (eff op k True ⟨fr, hp, gc⟩).run fun x => goW fr hp gc (some k) (fun v => v) x K
  | none => (eff op 0 True ⟨fr, hp, gc⟩).run fun x => goW fr hp gc none (fun v => v) x K

def stepWO (P : Program) (op : AOp) (d : Option Nat) (fr : Nat → AV) (hp : Nat → Option Ent) (gc : Nat → Nat) (K : St → List Nat → Prop) : Prop :=
  match op with
  | .call f args => callW P True false (fun v => v) d f args fr hp gc K
  | .callv x args => (rd True fr x).run fun v => isFn v fun f => callW P True false (fun v => v) d f args fr hp gc K
  | op => effOW K op d fr hp gc

def stepWG (P : Program) (cnd : Prop) (wr : AV → AV) (op : AOp) (d : Option Nat) (fr : Nat → AV) (hp : Nat → Option Ent) (gc : Nat → Nat) (K : St → List Nat → Prop) : Prop :=
  match op with
  | .val p => (pv hp gc cnd fr p).run fun v => goW fr hp gc d wr (.val v) K
  | .call f args => callW P cnd true wr d f args fr hp gc K
  | _ => False

def stepW (P : Program) (o : AOper) (st : St) (K : St → List Nat → Prop) : Prop :=
  match st with
  | ⟨fr, hp, gc⟩ => match o with
    | ⟨d, op, gd⟩ => match gd with
      | none => stepWO P op d fr hp gc K
      | some (g, want) => match fr g with
        | .c (.bool b) => stepWG P (b = want) (.may (b = want)) op d fr hp gc K
        | .may p (.c (.bool b)) => stepWG P (p ∧ b = want) (.may (p ∧ b = want)) op d fr hp gc K
        | _ => False

/-- What each operation names, and changes. -/
def stepWL (P : Program) : List AOper → St → List (List Nat × List Nat) → (St → List (List Nat × List Nat) → Prop) → Prop
  | [], st, rs, K => K st rs
  | o :: r, st, rs, K => stepW P o st fun st' ws => stepWL P r st' (rs ++ [(o.looks st.fr, ws)]) K

def apart : List Nat → List Nat → Bool
  | [], _ => true
  | x :: r, l => !(l.any (Nat.beq x)) && apart r l

/-- Operations that may change places do not meet at a site. -/
def okU (rs : List (List Nat × List Nat)) : List (Nat × Nat) → Bool
  | [] => true
  | (i, j) :: r => (match rs[i]? with
    | some x => (match rs[j]? with
      | some y => apart x.2 y.1 && apart y.2 x.1 && apart x.2 y.2
      | none => false)
    | none => false) && okU rs r

/-! ### Laid anew: only these slots and blocks go on, written out -/

def normF : List Nat → (Nat → AV) → (Nat → AV) → ((Nat → AV) → Prop) → Prop
  | [], _, acc, K => K acc
  | k :: r, fr, acc, K => frc (fr k) fun v => normF r fr (setF acc k v) K

def rowF : Nat → Nat → (Nat → AV) → ((Nat → AV) → Prop) → Prop
  | 0, _, _, K => K fun _ => .undef
  | m + 1, j, f, K => frc (f j) fun v => rowF m (j + 1) f fun g => K (fun i => match i with | 0 => v | i + 1 => g i)

def normE (e : Ent) (K : Ent → Prop) : Prop :=
  match e with
  | ⟨size, n, c, fz, ap⟩ => match c with
    | .dat c => K ⟨size, n, .dat c, fz, ap⟩
    | .var c => rowF size 0 c fun g => K ⟨size, n, .var g, fz, ap⟩
    | .gen c => K ⟨size, n, .gen c, fz, ap⟩

def normH : List Nat → (Nat → Option Ent) → (Nat → Option Ent) → ((Nat → Option Ent) → Prop) → Prop
  | [], _, acc, K => K acc
  | s :: r, hp, acc, K => match hp s with
    | some e => normE e fun e => normH r hp (setH acc s e) K
    | none => normH r hp acc K

def norm (ks ss : List Nat) (st : St) (K : St → Prop) : Prop :=
  match st with
  | ⟨fr, hp, gc⟩ => normF ks fr (fun _ => .undef) fun fr => normH ss hp (fun _ => none) fun hp => K ⟨fr, hp, gc⟩

def normO (keep : Option (List Nat × List Nat)) (st : St) (K : St → Prop) : Prop :=
  match keep with
  | none => K st
  | some (ks, ss) => norm ks ss st K

/-! ### Results -/

/-- Results that are data are frozen; they are what is said. -/
def frzRN (hp : Nat → Option Ent) (gc : Nat → Nat) : Nat → (Nat → AV) → (Nat → RCell) → M (List (Nat × Ent))
  | 0, _, _ => .ret []
  | m + 1, f, g => match g 0 with
    | .im x => (frzC hp gc (f 0)).bind fun y => .need (CEq y.1 x) ((frzRN (putH y.2 hp) gc m (fun j => f (j + 1)) fun j => g (j + 1)).bind fun z => .ret (y.2 ++ z))
    | .ow .. => frzRN hp gc m (fun j => f (j + 1)) fun j => g (j + 1)

def frzRV (hp : Nat → Option Ent) (gc : Nat → Nat) (v : AV) (r : RV) : M (List (Nat × Ent)) :=
  match r with
  | .one x => isOne v (frzRN hp gc 1 (fun _ => v) fun _ => x)
  | .many n g => match v with
    | .agg m f => iff' (Nat.beq m n && Nat.ble n 32) (frzRN hp gc n f g)
    | _ => .no

def frzRL (hp : Nat → Option Ent) (gc : Nat → Nat) (cnd : Prop) (fr : Nat → AV) : List Nat → List RV → M (List (Nat × Ent))
  | [], [] => .ret []
  | k :: ks, r :: rs => (rd cnd fr (.t k)).bind fun v => (frzRV hp gc v r).bind fun y => (frzRL (putH y hp) gc cnd fr ks rs).bind fun z => .ret (y ++ z)
  | _, _ => .no

/-- Results that are the caller's own: their places, and sites. -/
def ownR1 (hp : Nat → Option Ent) (gc : Nat → Nat) (t : Nat) (v : AV) (x : RCell) : M (List (Nat × Option Nat)) :=
  match x with
  | .im _ => .ret []
  | .ow size n f => match v with
    | .nil _ => .need (n = 0) (.ret [(t, none)])
    | .os s q sz off len => getE hp gc s q fun e => iff' (Nat.beq sz size && Nat.beq e.size size && e.ap) (isUn e (.need (off = 0 ∧ e.n = len ∧ n = len) (match e.c with
      | .dat c => .need (∀ i, i < n → ∀ j, j < size → CEq (c i j) (f i j)) (.ret [(t, some s)])
      | .gen c => .need (∀ i, i < n → ∀ j, j < size → isDat (c i j) ∧ CEq (cellOf (c i j)) (f i j)) (.ret [(t, some s)])
      | .var _ => .no)))
    | _ => .no

def ownRN (hp : Nat → Option Ent) (gc : Nat → Nat) : Nat → Nat → (Nat → AV) → (Nat → RCell) → M (List (Nat × Option Nat))
  | 0, _, _, _ => .ret []
  | m + 1, t, f, g => (ownR1 hp gc t (f 0) (g 0)).bind fun y => (ownRN hp gc m (t + 1) (fun j => f (j + 1)) fun j => g (j + 1)).bind fun z => .ret (y ++ z)

def ownRV (hp : Nat → Option Ent) (gc : Nat → Nat) (i : Nat) (v : AV) (r : RV) : M (List (Nat × Option Nat)) :=
  match r with
  | .one x => ownR1 hp gc (32 * i) v x
  | .many n g => match v with
    | .agg m f => iff' (Nat.beq m n) (ownRN hp gc n (32 * i) f g)
    | _ => .no

def ownRL (hp : Nat → Option Ent) (gc : Nat → Nat) (fr : Nat → AV) : Nat → List Nat → List RV → M (List (Nat × Option Nat))
  | _, [], [] => .ret []
  | i, k :: ks, r :: rs => (rd True fr (.t k)).bind fun v => (ownRV hp gc i v r).bind fun y => (ownRL hp gc fr (i + 1) ks rs).bind fun z => .ret (y ++ z)
  | _, _, _ => .no

def nodupN : List Nat → Bool
  | [] => true
  | x :: r => !(r.any (Nat.beq x)) && nodupN r

def somes : List (Nat × Option Nat) → List Nat
  | [] => []
  | (_, some s) :: r => s :: somes r
  | (_, none) :: r => somes r

structure Done : Prop where

/-- The function has returned what is said. -/
def retP (rs : List Nat) (res : List RV) (st : St) : Prop :=
  match st with
  | ⟨fr, hp, gc⟩ => (frzRL hp gc True fr rs res).run fun hs => goH hs hp fun hp => (ownRL hp gc fr 0 rs res).run fun pl => bif nodupN (pl.map (·.1)) && nodupN (somes pl) then Done else False

/-! ### Code -/

inductive ACode where
  | skip
  | seq (a b : ACode)
  | cond (x : Opd) (a b : ACode)
  | block (id : Nat) (a : ACode)
  | loop (a : ACode)
  | exit (id : Nat)
  | ret
  | halt
  | scope (a : ACode)
  | reg (ops : List AOper) (keep : Option (List Nat × List Nat))
  | regD (ops : List AOper) (U : List (Nat × Nat)) (keep : Option (List Nat × List Nat))

inductive AX where
  | normal
  | exit (id : Nat)
  | ret

/-- What holds of st holds of st' (less is said). -/
def Le (st st' : St) : Prop := ∀ O W N a w be, Rel O W N st a w be → ∃ be', Rel O W N st' a w be'

structure LoopEnd (p : Prop) : Prop where
  h : p

/-- Where a loop is left. -/
structure Out (f : St → Prop) (st : St) : Prop where
  h : f st

structure LoopVC (st : St) (body : (AX → St → Prop) → St → Prop) (Q : AX → St → Prop) : Prop where
  out : ∃ (X : Type) (S : X → St) (mu : X → Nat), (∃ x, Le st (S x)) ∧
    ∀ x, body (fun e st' => match e with
      | .normal => LoopEnd (∃ x', mu x' < mu x ∧ Le st' (S x'))
      | .exit id => Out (Q (.exit id)) st'
      | .ret => Out (Q .ret) st') (S x)

structure Both (c : Bool) (p q : St → Prop) (st : St) : Prop where
  l : c = true → p st
  r : c = false → q st

def awp (P : Program) : ACode → (AX → St → Prop) → St → Prop
  | .skip => fun Q st => Q .normal st
  | .seq a b => fun Q => awp P a (fun e st' => match e with
    | .normal => awp P b Q st'
    | .exit id => Q (.exit id) st'
    | .ret => Q .ret st')
  | .cond x a b => fun Q st => (rd True st.fr x).run fun v => match v with
    | .c (.bool c) => Both c (awp P a Q) (awp P b Q) st
    | _ => False
  | .block id a => fun Q => awp P a (fun e st' => match e with
    | .normal => Q .normal st'
    | .exit i => bif Nat.beq i id then Q .normal st' else Q (.exit i) st'
    | .ret => Q .ret st')
  | .loop a => fun Q st => LoopVC st (awp P a) Q
  | .exit id => fun Q st => Q (.exit id) st
  | .ret => fun Q st => Q .ret st
  | .halt => fun _ _ => False
  | .scope a => awp P a
  | .reg ops keep => fun Q st => stepL P ops st fun st' => normO keep st' (Q .normal)
  | .regD ops U keep => fun Q st => stepWL P ops st [] fun st' rs => bif okU rs U then normO keep st' (Q .normal) else False

/-- How a function's code ends. -/
def fin (rs : List Nat) (res : List RV) : AX → St → Prop
  | .normal, st => retP rs res st
  | .exit _, _ => False
  | .ret, st => retP rs res st

/-- The slots in which the arguments come. -/
def argF : List PV → Nat → Nat → AV
  | [], _ => fun _ => .undef
  | .one x :: r, k => setF (argF r (k + 1)) k (.c x)
  | .many n f :: r, k => setF (argF r (k + 1)) k (.agg n fun j => .c (f j))

def St.init (args : List PV) : St := ⟨argF args 0, fun _ => none, fun _ => 0⟩

end
end Lk
