/-
  LkA: what these chapters need.
-/
import Derived.Calls
import Derived.Below
import Derived.Scope
import Derived.Laws.World
import Derived.Laws.Sem
import Derived.Laws.Cells
import Derived.Laws.Slices
import Derived.Laws.BytesString
import Derived.Laws.Strings
import Derived.Laws.Concat
import Derived.Laws.StructEq
import Derived.Laws.MakeOwn
import Derived.Laws.AppendOwn
import Derived.IntWalk
import Derived.Laws.Strings2
import Derived.Laws.Tables
set_option linter.unusedSimpArgs false
set_option maxHeartbeats 8000000
set_option maxRecDepth 100000
set_option linter.unusedVariables false
namespace Lk
open Go Go.RowKit
inductive Cell where
  | int (k : IntKind) (n : Int)
  | bool (b : Bool)
  | str (s : List UInt8)
  | sl (size n : Nat) (f : Nat → Nat → Cell)
  | fn (f : Nat)
def RC (O : Nat → Prop) (w : World) : Cell → Value → Prop
  | .int k n, v => v = .int k n
  | .bool b, v => v = .bool b
  | .str s, v => v = .string ⟨⟨s⟩⟩
  | .fn f, v => v = .func (.func f) #[] #[]
  | .sl size n f, v => (n = 0 ∧ ∃ p, v = .slice p 0 0) ∨ ∃ b o cap, v = .slice (some ⟨b, o, none⟩) n cap ∧ n ≤ cap ∧ cap ≤ 9223372036854775807 ∧
      ∀ i, i < n → ∀ j, j < size → ¬ O b ∧ ∃ u, w.cell? ⟨b, o + i * size + j, none⟩ = some u ∧ RC O w (f i j) u
inductive AV where
  | undef
  | c (x : Cell)
  | nil (size : Nat)
  | os (s q size off len : Nat)
  | va (s q col : Nat)
  | ra (s q size row col : Nat)
  | ip (n : Nat) (f : Nat → Cell) (col : Nat)
  | agg (n : Nat) (f : Nat → AV)
  | tup (n : Nat) (f : Nat → AV)
  | may (p : Prop) (v : AV)
  | bl (p : Prop)
inductive EC where
  | var (c : Nat → AV)
  | dat (c : Nat → Nat → Cell)
  | gen (c : Nat → Nat → AV)
def EC.at : EC → Nat → Nat → AV
  | .var c, _, j => c j
  | .dat c, i, j => .c (c i j)
  | .gen c, i, j => c i j
structure Ent where
  size : Nat
  n : Nat
  c : EC
  fz : Bool
  ap : Bool
structure St where
  fr : Nat → AV
  hp : Nat → Option Ent
  gc : Nat → Nat
abbrev Nm := Nat → Nat → Option Nat
def RA (be : Nm) (ga : Nat → Nat) (O : Nat → Prop) (w : World) : AV → Value → Prop
  | .undef, _ => True
  | .c x, v => RC O w x v
  | .nil _, v => v = .slice none 0 0
  | .os s q size off len, v => q ≤ ga s ∧ ((be s q = none ∧ off = 0 ∧ len = 0 ∧ v = .slice none 0 0) ∨
      ∃ b o cap cs el fz, be s q = some b ∧ v = .slice (some ⟨b, o, none⟩) len cap ∧ len ≤ cap ∧ cap ≤ 9223372036854775807 ∧ (0 < cap → o = off * size) ∧
        w.heap[b]? = some (.cells cs el fz) ∧ o + cap * size ≤ cs.size)
  | .va s q col, v => q ≤ ga s ∧ ∃ b, be s q = some b ∧ v = .pointer (some ⟨b, col, none⟩)
  | .ra s q size row col, v => q ≤ ga s ∧ ∃ b, be s q = some b ∧ v = .pointer (some ⟨b, row * size + col, none⟩)
  | .ip n f col, v => ∃ b o, v = .pointer (some ⟨b, o + col, none⟩) ∧
      ∀ j, j < n → ¬ O b ∧ ∃ u, w.cell? ⟨b, o + j, none⟩ = some u ∧ RC O w (f j) u
  | .agg n f, v => ∃ cs : Array Value, v = .agg cs ∧ cs.size = n ∧ ∀ j, j < n → ∃ u, cs[j]? = some u ∧ u.oneCell' = true ∧ RA be ga O w (f j) u
  | .tup n f, v => ∃ cs : Array Value, v = .tuple cs ∧ cs.size = n ∧ ∀ j, j < n → ∃ u, cs[j]? = some u ∧ RA be ga O w (f j) u
  | .may p x, v => (p → RA be ga O w x v) ∧ (¬ p → v = Go.undef)
  | .bl p, v => ∃ b, v = .bool b ∧ (b = true → p)
structure Row (be : Nm) (ga : Nat → Nat) (O : Nat → Prop) (w : World) (e : Ent) (cs : Array Value) (fz : Nat × Nat) : Prop where
  fit : e.n * e.size ≤ cs.size
  clean : ∀ o, o < cs.size → ¬ (fz.1 ≤ o ∧ o < fz.2)
  plain : e.ap = true → fz = (0, 0)
  one : ∀ (i : Nat) (u : Value), cs[i]? = some u → u.oneCell' = true
  cont : ∀ i, i < e.n → ∀ j, j < e.size → ∃ u, cs[i * e.size + j]? = some u ∧ RA be ga O w (e.c.at i j) u
def EntOk (be : Nm) (ga : Nat → Nat) (O : Nat → Prop) (w : World) (B : Nat) (s : Nat) (e : Ent) : Prop :=
  (be s (ga s) = none ∧ e.n = 0) ∨ ∃ b cs el fz, be s (ga s) = some b ∧ B ≤ b ∧ w.heap[b]? = some (.cells cs el fz) ∧ Row be ga O w e cs fz
def own (O : Nat → Prop) (be : Nm) (st : St) (b : Nat) : Prop :=
  O b ∨ ∃ s e, st.hp s = some e ∧ e.fz = false ∧ be s (st.gc s) = some b
structure Rel (O : Nat → Prop) (W : World) (N : Nat) (st : St) (a : Act) (w : World) (be : Nm) : Prop where
  size : a.tmps.size = N
  defers : a.defers = []
  below : Below W.heap.size W w
  outer : ∀ b, O b → b < W.heap.size
  names : ∀ s q b, be s q = some b → b < w.heap.size
  slot : ∀ k, RA be st.gc (own O be st) w (st.fr k) (a.tmps.getD k Go.undef)
  ent : ∀ s e, st.hp s = some e → EntOk be st.gc (own O be st) w W.heap.size s e
  dist : ∀ s s' e e' b, st.hp s = some e → st.hp s' = some e' → be s (st.gc s) = some b → be s' (st.gc s') = some b → e.fz = false → s = s'
/-! ### Keeping -/

theorem RC.keep {O O' : Nat → Prop} {w w' : World} (hO : ∀ b, b < w.heap.size → O' b → O b)
    (hw : ∀ b o u, ¬ O b → w.cell? ⟨b, o, none⟩ = some u → w'.cell? ⟨b, o, none⟩ = some u) :
    ∀ {x : Cell} (v : Value), RC O w x v → RC O' w' x v := by
  intro x
  induction x with
  | int k n => exact fun _ h => h
  | bool b => exact fun _ h => h
  | str s => exact fun _ h => h
  | fn f => exact fun _ h => h
  | sl size n f ih =>
    intro v h
    rcases h with h | ⟨b, o, cap, hv, hn, hc, h⟩
    · exact Or.inl h
    · refine Or.inr ⟨b, o, cap, hv, hn, hc, fun i hi j hj => ?_⟩
      obtain ⟨ho, u, hu, hr⟩ := h i hi j hj
      exact ⟨fun h' => ho (hO b (World.block_lt_of_cell? _ _ hu) h'), u, hw b _ u ho hu, ih i j u hr⟩
structure Keeps (be : Nm) (ga : Nat → Nat) (O : Nat → Prop) (w : World) (be' : Nm) (ga' : Nat → Nat) (O' : Nat → Prop) (w' : World) : Prop where
  hga : ∀ s, ga s ≤ ga' s
  hbe : ∀ s q, q ≤ ga s → be' s q = be s q
  hO : ∀ b, b < w.heap.size → O' b → O b
  cell : ∀ b o u, ¬ O b → w.cell? ⟨b, o, none⟩ = some u → w'.cell? ⟨b, o, none⟩ = some u
  shape : ∀ (b : Nat) cs el fz, w.heap[b]? = some (.cells cs el fz) → ∃ cs' el' fz', w'.heap[b]? = some (.cells cs' el' fz') ∧ cs'.size = cs.size
theorem Keeps.rc {be be' : Nm} {ga ga' : Nat → Nat} {O O' : Nat → Prop} {w w' : World} (k : Keeps be ga O w be' ga' O' w') {x : Cell} {v : Value}
    (h : RC O w x v) : RC O' w' x v := RC.keep k.hO k.cell v h
theorem Keeps.ra {be be' : Nm} {ga ga' : Nat → Nat} {O O' : Nat → Prop} {w w' : World} (k : Keeps be ga O w be' ga' O' w') :
    ∀ {x : AV} (v : Value), RA be ga O w x v → RA be' ga' O' w' x v := by
  intro x
  induction x with
  | undef => exact fun _ _ => trivial
  | c x => exact fun _ h => k.rc h
  | nil => exact fun _ h => h
  | os s q size off len =>
    intro v ⟨hq, h⟩
    refine ⟨Nat.le_trans hq (k.hga s), ?_⟩
    rcases h with ⟨hb, h⟩ | ⟨b, o, cap, cs, el, fz, hb, hv, hl, hx, ho, hh, hc⟩
    · exact Or.inl ⟨(k.hbe s q hq).trans hb, h⟩
    · obtain ⟨cs', el', fz', hh', hs⟩ := k.shape b cs el fz hh
      exact Or.inr ⟨b, o, cap, cs', el', fz', (k.hbe s q hq).trans hb, hv, hl, hx, ho, hh', hs ▸ hc⟩
  | va s q col =>
    intro v ⟨hq, b, hb, hv⟩
    exact ⟨Nat.le_trans hq (k.hga s), b, (k.hbe s q hq).trans hb, hv⟩
  | ra s q size row col =>
    intro v ⟨hq, b, hb, hv⟩
    exact ⟨Nat.le_trans hq (k.hga s), b, (k.hbe s q hq).trans hb, hv⟩
  | ip n f col =>
    intro v ⟨b, o, hv, h⟩
    refine ⟨b, o, hv, fun j hj => ?_⟩
    obtain ⟨ho, u, hu, hr⟩ := h j hj
    exact ⟨fun h' => ho (k.hO b (World.block_lt_of_cell? _ _ hu) h'), u, k.cell b _ u ho hu, k.rc hr⟩
  | agg n f ih =>
    intro v ⟨cs, hv, hn, h⟩
    refine ⟨cs, hv, hn, fun j hj => ?_⟩
    obtain ⟨u, hu, h1, hr⟩ := h j hj
    exact ⟨u, hu, h1, ih j u hr⟩
  | tup n f ih =>
    intro v ⟨cs, hv, hn, h⟩
    refine ⟨cs, hv, hn, fun j hj => ?_⟩
    obtain ⟨u, hu, hr⟩ := h j hj
    exact ⟨u, hu, ih j u hr⟩
  | may p x ih => exact fun v ⟨h1, h2⟩ => ⟨fun hp => ih v (h1 hp), h2⟩
  | bl p => exact fun _ h => h
theorem Keeps.refl (be : Nm) (ga : Nat → Nat) (O : Nat → Prop) (w : World) : Keeps be ga O w be ga O w :=
  ⟨fun _ => Nat.le_refl _, fun _ _ _ => rfl, fun _ _ h => h, fun _ _ _ _ h => h, fun _ cs el fz h => ⟨cs, el, fz, h, rfl⟩⟩
theorem Keeps.less {be : Nm} {ga : Nat → Nat} {O O' : Nat → Prop} {w : World} (h : ∀ b, O' b → O b) : Keeps be ga O w be ga O' w :=
  { Keeps.refl be ga O w with hO := fun b _ hb => h b hb }
theorem heap_lt {w : World} {b : Nat} {o : Obj} (h : w.heap[b]? = some o) : b < w.heap.size := by
  rcases Nat.lt_or_ge b w.heap.size with h' | h'
  · exact h'
  · simp [Array.getElem?_eq_none h'] at h
theorem Row.keep {be be' : Nm} {ga ga' : Nat → Nat} {O O' : Nat → Prop} {w w' : World} (k : Keeps be ga O w be' ga' O' w') {e : Ent} {cs : Array Value} {fz : Nat × Nat}
    (h : Row be ga O w e cs fz) : Row be' ga' O' w' e cs fz :=
  ⟨h.fit, h.clean, h.plain, h.one, fun i hi j hj => let ⟨u, hu, hr⟩ := h.cont i hi j hj; ⟨u, hu, k.ra u hr⟩⟩
theorem EntOk.keep {be be' : Nm} {ga ga' : Nat → Nat} {O O' : Nat → Prop} {w w' : World} (k : Keeps be ga O w be' ga' O' w') {B s : Nat} {e : Ent}
    (hs : ga' s = ga s) (hb : ∀ b, be s (ga s) = some b → B ≤ b → w'.heap[b]? = w.heap[b]?) (h : EntOk be ga O w B s e) : EntOk be' ga' O' w' B s e := by
  have hn : be' s (ga' s) = be s (ga s) := by rw [hs]; exact k.hbe s _ (Nat.le_refl _)
  rcases h with ⟨h1, h2⟩ | ⟨b, cs, el, fz, h1, h2, h3, h4⟩
  · exact Or.inl ⟨hn.trans h1, h2⟩
  · exact Or.inr ⟨b, cs, el, fz, hn.trans h1, h2, (hb b h1 h2).trans h3, h4.keep k⟩
theorem Keeps.grown {be : Nm} {ga : Nat → Nat} {O : Nat → Prop} {w w' : World} (h : Below w.heap.size w w') : Keeps be ga O w be ga O w' :=
  { Keeps.refl be ga O w with
    cell := fun b o u _ hu => by rw [h.cell (p := ⟨b, o, none⟩) (World.block_lt_of_cell? _ _ hu)]; exact hu
    shape := fun b cs el fz hb => ⟨cs, el, fz, (h.block b (heap_lt hb)).trans hb, rfl⟩ }
end Lk
namespace Lk
open Go Go.RowKit
noncomputable section
structure Need {α : Type} (p : Prop) (m : (α → Prop) → Prop) (K : α → Prop) : Prop where
  l : p
  r : m K
structure NeedI {α : Type} (c p : Prop) (m : (α → Prop) → Prop) (K : α → Prop) : Prop where
  l : c → p
  r : m K
inductive M (α : Type) where
  | no
  | ret (x : α)
  | need (p : Prop) (m : M α)
  | imp (c p : Prop) (m : M α)
def M.bind {α β : Type} : M α → (α → M β) → M β
  | .no, _ => .no
  | .ret x, f => f x
  | .need p m, f => .need p (m.bind f)
  | .imp c p m, f => .imp c p (m.bind f)
def M.run {α : Type} : M α → (α → Prop) → Prop
  | .no => fun _ => False
  | .ret x => fun K => K x
  | .need p m => Need p m.run
  | .imp c p m => NeedI c p m.run
def M.guard {α : Type} (g : Prop) : M α → M α
  | .no => .no
  | .ret x => .ret x
  | .need p m => .need (g → p) (m.guard g)
  | .imp c p m => .imp c p (m.guard g)
theorem M.guard_run {α : Type} {g : Prop} (hg : g) : ∀ {m : M α} {K : α → Prop}, (m.guard g).run K → m.run K
  | .no, _, h => h
  | .ret _, _, h => h
  | .need _ _, _, h => ⟨h.l hg, M.guard_run hg h.r⟩
  | .imp _ _ _, _, h => ⟨h.l, M.guard_run hg h.r⟩
theorem M.guard_ex {α : Type} {g : Prop} : ∀ {m : M α} {K : α → Prop}, (m.guard g).run K → ∃ v, K v
  | .no, _, h => h.elim
  | .ret x, _, h => ⟨x, h⟩
  | .need _ _, _, h => M.guard_ex h.r
  | .imp _ _ _, _, h => M.guard_ex h.r
inductive Cst where
  | int (k : IntKind) (n : Int)
  | bool (b : Bool)
  | str (s : List UInt8)
  | nil (size : Nat)
  | fn (f : Nat)
def Cst.av : Cst → AV
  | .int k n => .c (.int k n)
  | .bool b => .c (.bool b)
  | .str s => .c (.str s)
  | .nil z => .nil z
  | .fn f => .c (.fn f)
def Cst.cell : Cst → Cell
  | .int k n => .int k n
  | .bool b => .bool b
  | .str s => .str s
  | .nil z => .sl z 0 fun _ _ => .bool false
  | .fn f => .fn f
inductive Opd where
  | t (k : Nat)
  | k (c : Cst)
def opd (fr : Nat → AV) : Opd → AV
  | .t k => fr k
  | .k c => c.av
def ktag : IntKind → Nat
  | .i8 => 0 | .i16 => 1 | .i32 => 2 | .i64 => 3 | .u8 => 4 | .u16 => 5 | .u32 => 6 | .u64 => 7
def isK (k k' : IntKind) : Bool := Nat.beq (ktag k) (ktag k')
def rng : IntKind → Int → Prop
  | .i8, n => -128 ≤ n ∧ n ≤ 127
  | .i16, n => -32768 ≤ n ∧ n ≤ 32767
  | .i32, n => -2147483648 ≤ n ∧ n ≤ 2147483647
  | .i64, n => -9223372036854775808 ≤ n ∧ n ≤ 9223372036854775807
  | .u8, n => 0 ≤ n ∧ n ≤ 255
  | .u16, n => 0 ≤ n ∧ n ≤ 65535
  | .u32, n => 0 ≤ n ∧ n ≤ 4294967295
  | .u64, n => 0 ≤ n ∧ n ≤ 18446744073709551615
inductive POp where
  | mov (x : Opd)
  | por (c b : Opd)
  | pand (c b : Opd)
  | build (n : Nat) (z : List Cst) (parts : List (Nat × Nat × Opd))
  | load1 (x : Opd)
  | loadA (m : Nat) (x : Opd)
  | loadR (m : Nat) (x : Opd)
  | field (off : Nat) (x : Opd)
  | ixS (size : Nat) (x i : Opd)
  | ixA (size len : Nat) (x i : Opd)
  | nilc (x : Opd)
  | bin (o : BinOp) (chk : Bool) (x y : Opd)
  | eqA (neg : Bool) (ts : List Nat) (x y : Opd)
  | eqB (neg : Bool) (x y : Opd)
  | nilS (x : Opd)
  | not (x : Opd)
  | com (x : Opd)
  | conv (chk : Bool) (k : IntKind) (x : Opd)
  | b2s (x : Opd)
  | slT (x : Opd) (lo hi : Option Opd)
  | slS (size : Nat) (x : Opd) (lo hi : Option Opd)
  | slA (size len : Nat) (x : Opd)
  | idx (x i : Opd)
  | idxA (len : Nat) (x i : Opd)
  | lenS (x : Opd)
  | lenT (x : Opd)
  | lenK (n : Nat)
  | capS (x : Opd)
  | fldA (off m : Nat) (x : Opd)
  | fld1 (off : Nat) (x : Opd)
  | mm (mx : Bool) (x : Opd) (xs : List Opd)
  | extr (i : Nat) (x : Opd)
instance instPOpNat (n : Nat) : OfNat POp n := ⟨.mov (.t n)⟩
inductive AOp where
  | val (p : POp)
  | alloc (size : Nat) (z : List Cst)
  | allocR (rows size : Nat) (z : List Cst)
  | box (size : Nat) (x : Opd)
  | boxR (n : Nat) (x : Opd)
  | buildS (size len : Nat) (z : List Cst) (parts : List (Nat × Opd))
  | mk (size bytes : Nat) (z : List Cst) (n : Opd)
  | mk2 (size bytes : Nat) (z : List Cst) (n c : Opd)
  | s2b (x : Opd)
  | app (size bytes : Nat) (x y : Opd)
  | appZ (size bytes : Nat) (z : List Cst) (x n : Opd)
  | st1 (keep : Bool) (x v : Opd)
  | stA (keep : Bool) (m : Nat) (x v : Opd)
  | stR (m : Nat) (x v : Opd)
  | call (f : Nat) (args : List Opd)
  | callv (x : Opd) (args : List Opd)
  | halt
structure AOper where
  d : Option Nat
  op : AOp
  gd : Option (Nat × Bool)
inductive PV where
  | one (x : Cell)
  | many (n : Nat) (f : Nat → Cell)
  | nil (z : Nat)
inductive RCell where
  | im (x : Cell)
  | ow (size n : Nat) (f : Nat → Nat → Cell)
inductive RV where
  | one (x : RCell)
  | many (n : Nat) (f : Nat → RCell)
/-! ### Reading operands -/

def rdv (cnd : Prop) (v : AV) : M AV :=
  match v with
  | .may p x => .imp cnd p (.ret x)
  | .bl p => .ret (.bl p)
  | .undef => .ret .undef
  | .c x => .ret (.c x)
  | .nil z => .ret (.nil z)
  | .os s q size off len => .ret (.os s q size off len)
  | .va s q col => .ret (.va s q col)
  | .ra s q size row col => .ret (.ra s q size row col)
  | .ip n f col => .ret (.ip n f col)
  | .agg n f => .ret (.agg n f)
  | .tup n f => .ret (.tup n f)
def rd (cnd : Prop) (fr : Nat → AV) (x : Opd) : M AV := rdv cnd (opd fr x)
def asI {α : Type} (v : AV) (K : IntKind → Int → M α) : M α :=
  match v with
  | .c (.int k n) => K k n
  | _ => .no
def asB {α : Type} (v : AV) (K : Bool → M α) : M α :=
  match v with
  | .c (.bool b) => K b
  | _ => .no
def asS {α : Type} (v : AV) (K : List UInt8 → M α) : M α :=
  match v with
  | .c (.str b) => K b
  | _ => .no
def iff' {α : Type} (b : Bool) (m : M α) : M α := bif b then m else .no
/-! ### Numbers -/

def bitI0 (o : BinOp) (k : IntKind) (a b : Int) : Int :=
  k.wrap (match o with
    | .and => (BitVec.ofInt k.bits a &&& BitVec.ofInt k.bits b).toNat
    | .or => (BitVec.ofInt k.bits a ||| BitVec.ofInt k.bits b).toNat
    | .xor => (BitVec.ofInt k.bits a ^^^ BitVec.ofInt k.bits b).toNat
    | _ => (BitVec.ofInt k.bits a &&& ~~~ BitVec.ofInt k.bits b).toNat)
structure Arith where
  bit : BinOp → IntKind → Int → Int → Int
  shl : IntKind → Int → Int → Int
  shr : IntKind → Int → Int → Int
  wrap : IntKind → Int → Int
  com : IntKind → Int → Int
def arith0 : Arith := ⟨bitI0, fun k a b => k.wrap (a * 2 ^ (min b.toNat k.bits)), fun k a b => a.fdiv (2 ^ (min b.toNat k.bits)), fun k n => k.wrap n,
  fun k n => bitI0 .xor k (bif k.signed then -1 else k.max) n⟩
noncomputable def arithC : {A : Arith // A = arith0} := Classical.choice ⟨⟨arith0, rfl⟩⟩
noncomputable def bitI (o : BinOp) (k : IntKind) (a b : Int) : Int := arithC.1.bit o k a b
noncomputable def shlI (k : IntKind) (a b : Int) : Int := arithC.1.shl k a b
noncomputable def shrI (k : IntKind) (a b : Int) : Int := arithC.1.shr k a b
noncomputable def wrapI (k : IntKind) (n : Int) : Int := arithC.1.wrap k n
noncomputable def comI (k : IntKind) (n : Int) : Int := arithC.1.com k n
theorem bitI_eq (o : BinOp) (k : IntKind) (a b : Int) : bitI o k a b = bitI0 o k a b := by unfold bitI; rw [arithC.2]; rfl
theorem shlI_eq (k : IntKind) (a b : Int) : shlI k a b = k.wrap (a * 2 ^ (min b.toNat k.bits)) := by unfold shlI; rw [arithC.2]; rfl
theorem shrI_eq (k : IntKind) (a b : Int) : shrI k a b = a.fdiv (2 ^ (min b.toNat k.bits)) := by unfold shrI; rw [arithC.2]; rfl
theorem wrapI_eq (k : IntKind) (n : Int) : wrapI k n = k.wrap n := by unfold wrapI; rw [arithC.2]; rfl
theorem comI_eq (k : IntKind) (n : Int) : comI k n = bitI0 .xor k (bif k.signed then -1 else k.max) n := by unfold comI; rw [arithC.2]; rfl
def rI (k : IntKind) (n : Int) : M AV := .ret (.c (.int k n))
def rB (b : Bool) : M AV := .ret (.c (.bool b))
def binI (o : BinOp) (chk : Bool) (k : IntKind) (a b : Int) : M AV :=
  match o with
  | .add => bif chk then .need (rng k (a + b)) (rI k (a + b)) else rI k (wrapI k (a + b))
  | .sub => bif chk then .need (rng k (a - b)) (rI k (a - b)) else rI k (wrapI k (a - b))
  | .mul => bif chk then .need (rng k (a * b)) (rI k (a * b)) else rI k (wrapI k (a * b))
  | .quo => .need (0 ≤ a ∧ 0 < b) (.need (rng k (a / b)) (rI k (a / b)))
  | .rem => .need (0 ≤ a ∧ 0 < b) (rI k (a % b))
  | .and => rI k (bitI .and k a b)
  | .or => rI k (bitI .or k a b)
  | .xor => rI k (bitI .xor k a b)
  | .eql => rB (decide (a = b))
  | .neq => rB (!decide (a = b))
  | .lss => rB (decide (a < b))
  | .leq => rB (decide (a ≤ b))
  | .gtr => rB (decide (b < a))
  | .geq => rB (decide (b ≤ a))
  | _ => .no
def binA (o : BinOp) (chk : Bool) (k : IntKind) (a : Int) (k' : IntKind) (b : Int) : M AV :=
  match o with
  | .shl => .need (0 ≤ b) (rI k (shlI k a b))
  | .shr => .need (0 ≤ b) (rI k (shrI k a b))
  | .add => iff' (isK k k') (binI .add chk k a b)
  | .sub => iff' (isK k k') (binI .sub chk k a b)
  | .mul => iff' (isK k k') (binI .mul chk k a b)
  | .quo => iff' (isK k k') (binI .quo chk k a b)
  | .rem => iff' (isK k k') (binI .rem chk k a b)
  | .and => iff' (isK k k') (binI .and chk k a b)
  | .or => iff' (isK k k') (binI .or chk k a b)
  | .xor => iff' (isK k k') (binI .xor chk k a b)
  | .eql => iff' (isK k k') (binI .eql chk k a b)
  | .neq => iff' (isK k k') (binI .neq chk k a b)
  | .lss => iff' (isK k k') (binI .lss chk k a b)
  | .leq => iff' (isK k k') (binI .leq chk k a b)
  | .gtr => iff' (isK k k') (binI .gtr chk k a b)
  | .geq => iff' (isK k k') (binI .geq chk k a b)
  | _ => .no
def binS (o : BinOp) (a b : List UInt8) : M AV :=
  match o with
  | .add => .need (a.length + b.length ≤ 1000000000000) (.ret (.c (.str (a ++ b))))
  | .eql => rB (decide (a = b))
  | .neq => rB (!decide (a = b))
  | _ => .no
def bin (o : BinOp) (chk : Bool) (x y : AV) : M AV :=
  match x with
  | .c (.int k a) => asI y fun k' b => binA o chk k a k' b
  | .c (.str a) => asS y fun b => binS o a b
  | _ => .no
def eqC (t : Nat) (x y : AV) : M Bool :=
  match t with
  | 0 => asI x fun k a => asI y fun k' b => iff' (isK k k') (.ret (decide (a = b)))
  | 1 => asB x fun a => asB y fun b => .ret (a == b)
  | 2 => asS x fun a => asS y fun b => .ret (decide (a = b))
  | _ => .no
def eqCells : List Nat → Nat → (Nat → AV) → (Nat → AV) → M Bool
  | [], _, _, _ => .ret true
  | t :: r, j, f, g => (eqC t (f j) (g j)).bind fun b => match r with
    | [] => .ret b
    | _ :: _ => (eqCells r (j + 1) f g).bind fun c => .ret (b && c)
def avs : List Cst → Nat → AV
  | [], _ => .undef
  | c :: _, 0 => c.av
  | _ :: r, j + 1 => avs r j
def cells : List Cst → Nat → Cell
  | [], _ => .bool false
  | c :: _, 0 => c.cell
  | _ :: r, j + 1 => cells r j
def isOne {α : Type} (v : AV) (m : M α) : M α :=
  match v with
  | .c _ => m
  | .nil _ => m
  | .os .. => m
  | .va .. => m
  | .ra .. => m
  | _ => .no
def toU8 (x : Cell) : UInt8 :=
  match x with
  | .int _ n => UInt8.ofNat n.toNat
  | _ => 0
def isU8 (x : Cell) : Prop :=
  match x with
  | .int .u8 _ => True
  | _ => False
def getE {α : Type} (hp : Nat → Option Ent) (gc : Nat → Nat) (s q : Nat) (f : Ent → M α) : M α :=
  iff' (Nat.beq q (gc s)) (match hp s with
  | some e => f e
  | none => .no)
def fillF (f : Nat → AV) (off n : Nat) (g : Nat → AV) : Nat → AV :=
  fun j => bif Nat.ble off j then (bif Nat.ble (off + n) j then f j else g (j - off)) else f j
def fillP (cnd : Prop) (fr : Nat → AV) : List (Nat × Nat × Opd) → (Nat → AV) → M (Nat → AV)
  | [], f => .ret f
  | (off, size, x) :: r, f => (rd cnd fr x).bind fun v =>
    match v with
    | .agg n g => iff' (Nat.beq n size) (fillP cnd fr r (fillF f off size g))
    | v => iff' (Nat.beq 1 size) (isOne v (fillP cnd fr r (fillF f off 1 fun _ => v)))
def varE {α : Type} (e : Ent) (col m : Nat) (f : (Nat → AV) → M α) : M α :=
  match e.c with
  | .var c => iff' (Nat.beq e.n 1 && Nat.ble (col + m) e.size) (f c)
  | _ => .no
def rowE {α : Type} (e : Ent) (size row col m : Nat) (x : M α) : M α :=
  iff' (Nat.beq e.size size && Nat.ble (col + m) size) (.need (row < e.n) x)
def load1 (hp : Nat → Option Ent) (gc : Nat → Nat) (v : AV) : M AV :=
  match v with
  | .va s q col => getE hp gc s q fun e => varE e col 1 fun c => .ret (c col)
  | .ra s q size row col => getE hp gc s q fun e => rowE e size row col 1 (.ret (e.c.at row col))
  | .ip n f col => iff' (Nat.ble (col + 1) n) (.ret (.c (f col)))
  | _ => .no
def loadA (hp : Nat → Option Ent) (gc : Nat → Nat) (m : Nat) (v : AV) : M AV :=
  match v with
  | .va s q col => getE hp gc s q fun e => varE e col m fun c => .ret (.agg m fun j => c (col + j))
  | .ra s q size row col => getE hp gc s q fun e => rowE e size row col m (.ret (.agg m fun j => e.c.at row (col + j)))
  | .ip n f col => iff' (Nat.ble (col + m) n) (.ret (.agg m fun j => .c (f (col + j))))
  | _ => .no
def loadR (hp : Nat → Option Ent) (gc : Nat → Nat) (m : Nat) (v : AV) : M AV :=
  match v with
  | .ra s q size row col => getE hp gc s q fun e => iff' (Nat.beq e.size 1 && Nat.beq size 1 && Nat.beq row 0 && Nat.beq col 0) (.need (m ≤ e.n) (.ret (.agg m fun j => e.c.at j 0)))
  | .ip n f col => iff' (Nat.ble (col + m) n) (.ret (.agg m fun j => .c (f (col + j))))
  | _ => .no
def addN (a b : Nat) : Nat :=
  match a with
  | 0 => b
  | a + 1 => a + 1 + b
theorem addN_eq (a b : Nat) : addN a b = a + b := by
  cases a with
  | zero => simp [addN]
  | succ a => rfl
def ixS0 (size : Nat) (x : AV) (i : Int) : M AV :=
  match x with
  | .c (.sl sz n f) => iff' (Nat.beq sz size) (.need (0 ≤ i ∧ i < n) (.ret (.ip size (f i.toNat) 0)))
  | .os s q sz off len => iff' (Nat.beq sz size) (.need (0 ≤ i ∧ i < len) (.ret (.ra s q size (off + i.toNat) 0)))
  | .nil _ => .need False .no
  | _ => .no
def ixS (size : Nat) (x : AV) (i : Int) : M AV :=
  match x with
  | .c (.sl sz n f) => iff' (Nat.beq sz size) (.need (0 ≤ i ∧ i < n) (.ret (.ip size (f i.toNat) 0)))
  | .os s q sz off len => iff' (Nat.beq sz size) (.need (0 ≤ i ∧ i < len) (.ret (.ra s q size (addN off i.toNat) 0)))
  | .nil _ => .need False .no
  | _ => .no
def ixA (size len : Nat) (x : AV) (i : Int) : M AV :=
  match x with
  | .ra s q sz row col => iff' (Nat.beq sz size && Nat.beq row 0 && Nat.beq col 0) (.need (0 ≤ i ∧ i < len) (.ret (.ra s q size i.toNat 0)))
  | .ip n f col => iff' (Nat.beq size 1) (.need (0 ≤ i ∧ i < len) (.ret (.ip n f (col + i.toNat))))
  | _ => .no
def fieldP (off : Nat) (x : AV) : M AV :=
  match x with
  | .va s q col => .ret (.va s q (col + off))
  | .ra s q size row col => .ret (.ra s q size row (col + off))
  | .ip n f col => .ret (.ip n f (col + off))
  | _ => .no
def optI {α : Type} (cnd : Prop) (fr : Nat → AV) (x : Option Opd) (K : Option Int → M α) : M α :=
  match x with
  | none => K none
  | some x => (rd cnd fr x).bind fun v => asI v fun _ n => K (some n)
def slT (l : List UInt8) (lo hi : Option Int) : M AV :=
  match lo, hi with
  | none, none => .ret (.c (.str l))
  | none, some h => .need (0 ≤ h ∧ h ≤ l.length) (.ret (.c (.str (l.take h.toNat))))
  | some a, none => .need (0 ≤ a ∧ a ≤ l.length) (.ret (.c (.str (l.drop a.toNat))))
  | some a, some h => .need (0 ≤ a ∧ a ≤ h ∧ h ≤ l.length) (.ret (.c (.str ((l.take h.toNat).drop a.toNat))))
def slS0 (size : Nat) (x : AV) (lo hi : Option Int) : M AV :=
  match x with
  | .c (.sl sz n f) => iff' (Nat.beq sz size) (
      match lo, hi with
      | none, none => .ret (.c (.sl size n f))
      | none, some h => .need (0 ≤ h ∧ h ≤ n) (.ret (.c (.sl size h.toNat f)))
      | some a, none => .need (0 ≤ a ∧ a ≤ n) (.ret (.c (.sl size (n - a.toNat) fun i => f (a.toNat + i))))
      | some a, some h => .need (0 ≤ a ∧ a ≤ h ∧ h ≤ n) (.ret (.c (.sl size (h.toNat - a.toNat) fun i => f (a.toNat + i)))))
  | .os s q sz off len => iff' (Nat.beq sz size) (
      match lo, hi with
      | none, none => .ret (.os s q size off len)
      | none, some h => .need (0 ≤ h ∧ h ≤ len) (.ret (.os s q size off h.toNat))
      | some a, none => .need (0 ≤ a ∧ a ≤ len) (.ret (.os s q size (off + a.toNat) (len - a.toNat)))
      | some a, some h => .need (0 ≤ a ∧ a ≤ h ∧ h ≤ len) (.ret (.os s q size (off + a.toNat) (h.toNat - a.toNat))))
  | .nil z => (
      match lo, hi with
      | none, none => .ret (.nil z)
      | none, some h => .need (h = 0) (.ret (.nil z))
      | some a, none => .need (a = 0) (.ret (.nil z))
      | some a, some h => .need (a = 0 ∧ h = 0) (.ret (.nil z)))
  | _ => .no
def slS (size : Nat) (x : AV) (lo hi : Option Int) : M AV :=
  match x with
  | .c (.sl sz n f) => iff' (Nat.beq sz size) (
      match lo, hi with
      | none, none => .ret (.c (.sl size n f))
      | none, some h => .need (0 ≤ h ∧ h ≤ n) (.ret (.c (.sl size h.toNat f)))
      | some a, none => .need (0 ≤ a ∧ a ≤ n) (.ret (.c (.sl size (n - a.toNat) fun i => f (addN a.toNat i))))
      | some a, some h => .need (0 ≤ a ∧ a ≤ h ∧ h ≤ n) (.ret (.c (.sl size (h.toNat - a.toNat) fun i => f (addN a.toNat i)))))
  | .os s q sz off len => iff' (Nat.beq sz size) (
      match lo, hi with
      | none, none => .ret (.os s q size off len)
      | none, some h => .need (0 ≤ h ∧ h ≤ len) (.ret (.os s q size off h.toNat))
      | some a, none => .need (0 ≤ a ∧ a ≤ len) (.ret (.os s q size (addN off a.toNat) (len - a.toNat)))
      | some a, some h => .need (0 ≤ a ∧ a ≤ h ∧ h ≤ len) (.ret (.os s q size (addN off a.toNat) (h.toNat - a.toNat))))
  | .nil z => (
      match lo, hi with
      | none, none => .ret (.nil z)
      | none, some h => .need (h = 0) (.ret (.nil z))
      | some a, none => .need (a = 0) (.ret (.nil z))
      | some a, some h => .need (a = 0 ∧ h = 0) (.ret (.nil z)))
  | _ => .no
def slA (hp : Nat → Option Ent) (gc : Nat → Nat) (size len : Nat) (x : AV) : M AV :=
  match x with
  | .ra s q sz row col => getE hp gc s q fun e => iff' (Nat.beq sz size && Nat.beq row 0 && Nat.beq col 0 && Nat.beq e.size size) (.need (e.n = len) (.ret (.os s q size 0 len)))
  | _ => .no
def lenV (x : AV) : M AV :=
  match x with
  | .c (.sl _ n _) => rI .i64 n
  | .nil _ => rI .i64 0
  | .os _ _ _ _ len => rI .i64 len
  | _ => .no
def capV (x : AV) : M AV :=
  match x with
  | .nil _ => rI .i64 0
  | _ => .no
def mmL (cnd : Prop) (fr : Nat → AV) (mx : Bool) (k : IntKind) : Int → List Opd → M AV
  | a, [] => rI k a
  | a, x :: r => (rd cnd fr x).bind fun v => asI v fun _ b => mmL cnd fr mx k (bif mx then max a b else min a b) r
def bytesOf (n : Nat) (f : Nat → Cell) : List UInt8 := (List.range n).map fun i => toU8 (f i)
def b2s0 (hp : Nat → Option Ent) (gc : Nat → Nat) (x : AV) : M AV :=
  match x with
  | .nil _ => .ret (.c (.str []))
  | .c (.sl sz n f) => iff' (Nat.beq sz 1) (.need (∀ i, i < n → isU8 (f i 0)) (.ret (.c (.str (bytesOf n fun i => f i 0)))))
  | .os s q sz off len => getE hp gc s q fun e => iff' (Nat.beq e.size 1 && Nat.beq sz 1) (.need (off + len ≤ e.n) (
      match e.c with
      | .dat c => .need (∀ i, i < len → isU8 (c (off + i) 0)) (.ret (.c (.str (bytesOf len fun i => c (off + i) 0))))
      | _ => .no))
  | _ => .no
def b2s (hp : Nat → Option Ent) (gc : Nat → Nat) (x : AV) : M AV :=
  match x with
  | .nil _ => .ret (.c (.str []))
  | .c (.sl sz n f) => iff' (Nat.beq sz 1) (.need (∀ i, i < n → isU8 (f i 0)) (.ret (.c (.str (bytesOf n fun i => f i 0)))))
  | .os s q sz off len => getE hp gc s q fun e => iff' (Nat.beq e.size 1 && Nat.beq sz 1) (.need (off + len ≤ e.n) (
      match e.c with
      | .dat c => .need (∀ i, i < len → isU8 (c (addN off i) 0)) (.ret (.c (.str (bytesOf len fun i => c (addN off i) 0))))
      | _ => .no))
  | _ => .no
def eqA (neg : Bool) (ts : List Nat) (v w : AV) : M AV :=
  match v with
  | .agg m f => match w with
    | .agg m' g => iff' (Nat.beq m ts.length && Nat.beq m' ts.length) ((eqCells ts 0 f g).bind fun b => rB (bif neg then !b else b))
    | _ => .no
  | _ => .no
def nilS (v : AV) : M AV :=
  match v with
  | .nil _ => rB true
  | .c (.sl _ n _) => .ret (.bl (n = 0))
  | .os _ _ _ _ len => .ret (.bl (len = 0))
  | _ => .no
def pv (hp : Nat → Option Ent) (gc : Nat → Nat) (cnd : Prop) (fr : Nat → AV) (p : POp) : M AV :=
  match p with
  | .mov x => rd cnd fr x
  | .por c b => (rd cnd fr c).bind fun v => asB v fun x => (rd (cnd ∧ x = false) fr b).bind fun w => asB w fun y => rB (x || y)
  | .pand c b => (rd cnd fr c).bind fun v => asB v fun x => (rd (cnd ∧ x = true) fr b).bind fun w => asB w fun y => rB (x && y)
  | .build n z parts => (fillP cnd fr parts (avs z)).bind fun f => .ret (.agg n f)
  | .load1 x => (rd cnd fr x).bind fun v => load1 hp gc v
  | .loadA m x => (rd cnd fr x).bind fun v => loadA hp gc m v
  | .loadR m x => (rd cnd fr x).bind fun v => loadR hp gc m v
  | .field off x => (rd cnd fr x).bind fun v => fieldP off v
  | .ixS size x i => (rd cnd fr x).bind fun v => (rd cnd fr i).bind fun w => asI w fun _ n => ixS size v n
  | .ixA size len x i => (rd cnd fr x).bind fun v => (rd cnd fr i).bind fun w => asI w fun _ n => ixA size len v n
  | .nilc x => (rd cnd fr x).bind fun v => fieldP 0 v
  | .bin o chk x y => (rd cnd fr x).bind fun v => (rd cnd fr y).bind fun w => bin o chk v w
  | .eqA neg ts x y => (rd cnd fr x).bind fun v => (rd cnd fr y).bind fun w => eqA neg ts v w
  | .eqB neg x y => (rd cnd fr x).bind fun v => asB v fun a => (rd cnd fr y).bind fun w => asB w fun b => rB (bif neg then !(a == b) else a == b)
  | .nilS x => (rd cnd fr x).bind fun v => nilS v
  | .not x => (rd cnd fr x).bind fun v => asB v fun b => rB (!b)
  | .com x => (rd cnd fr x).bind fun v => asI v fun k n => rI k (comI k n)
  | .conv chk k x => (rd cnd fr x).bind fun v => asI v fun _ n => bif chk then .need (rng k n) (rI k n) else rI k (wrapI k n)
  | .b2s x => (rd cnd fr x).bind fun v => b2s hp gc v
  | .slT x lo hi => (rd cnd fr x).bind fun v => asS v fun l => optI cnd fr lo fun a => optI cnd fr hi fun b => slT l a b
  | .slS size x lo hi => (rd cnd fr x).bind fun v => optI cnd fr lo fun a => optI cnd fr hi fun b => slS size v a b
  | .slA size len x => (rd cnd fr x).bind fun v => slA hp gc size len v
  | .idx x i => (rd cnd fr x).bind fun v => asS v fun l => (rd cnd fr i).bind fun w => asI w fun _ n => .need (0 ≤ n ∧ n < l.length) (rI .u8 (l.getD n.toNat 0).toNat)
  | .idxA len x i => (rd cnd fr x).bind fun v => (rd cnd fr i).bind fun w => asI w fun _ n =>
    match v with
    | .agg m f => iff' (Nat.ble len m) (.need (0 ≤ n ∧ n < len) (.ret (f n.toNat)))
    | _ => .no
  | .lenS x => (rd cnd fr x).bind fun v => lenV v
  | .lenT x => (rd cnd fr x).bind fun v => asS v fun l => rI .i64 l.length
  | .lenK n => rI .i64 n
  | .capS x => (rd cnd fr x).bind fun v => capV v
  | .fldA off m x => (rd cnd fr x).bind fun v =>
    match v with
    | .agg n f => iff' (Nat.ble (off + m) n) (.ret (.agg m fun j => f (off + j)))
    | _ => .no
  | .fld1 off x => (rd cnd fr x).bind fun v =>
    match v with
    | .agg n f => iff' (Nat.ble (off + 1) n) (.ret (f off))
    | _ => .no
  | .mm mx x xs => (rd cnd fr x).bind fun v => asI v fun k n => mmL cnd fr mx k n xs
  | .extr i x => (rd cnd fr x).bind fun v =>
    match v with
    | .tup n f => iff' (Nat.ble (i + 1) n) (.ret (f i))
    | _ => .no
/-! ### Changes -/

structure Dl where
  v : AV
  hs : List (Nat × Ent)
  gs : List Nat
def setF (fr : Nat → AV) (d : Nat) (v : AV) : Nat → AV := fun k => bif Nat.beq k d then v else fr k
def putF (fr : Nat → AV) (d : Option Nat) (v : AV) : Nat → AV :=
  match d with
  | some d => setF fr d v
  | none => fr
def setH (hp : Nat → Option Ent) (s : Nat) (e : Ent) : Nat → Option Ent := fun k => bif Nat.beq k s then some e else hp k
def putH : List (Nat × Ent) → (Nat → Option Ent) → Nat → Option Ent
  | [], hp => hp
  | (s, e) :: r, hp => putH r (setH hp s e)
def bump (ga : Nat → Nat) (s : Nat) : Nat → Nat := fun k => bif Nat.beq k s then ga s + 1 else ga k
def putG : List Nat → (Nat → Nat) → Nat → Nat
  | [], ga => ga
  | s :: r, ga => putG r (bump ga s)
def St.app (st : St) (d : Option Nat) (x : Dl) : St := ⟨putF st.fr d x.v, putH x.hs st.hp, putG x.gs st.gc⟩
def Dl.val (v : AV) : Dl := ⟨v, [], []⟩
def Dl.new (d : Nat) (v : AV) (size n : Nat) (c : EC) (ap : Bool) : Dl := ⟨v, [(d, ⟨size, n, c, false, ap⟩)], [d]⟩
def updC {α : Type} (c : Nat → Nat → α) (row col : Nat) (v : α) : Nat → Nat → α :=
  fun i j => bif Nat.beq j col then (bif Nat.beq i row then v else c i j) else c i j
def updV (c : Nat → AV) (col : Nat) (v : AV) : Nat → AV := fun j => bif Nat.beq j col then v else c j
def EC.upd1 (e : EC) (row col : Nat) (v : AV) : EC :=
  match e with
  | .var c => .var (updV c col v)
  | .dat c => match v with
    | .c x => .dat (updC c row col x)
    | v => .gen (updC (fun i j => .c (c i j)) row col v)
  | .gen c => .gen (updC c row col v)
def Ent.mod (e : Ent) (f : EC → EC) : Ent := match e with | ⟨size, n, c, fz, ap⟩ => ⟨size, n, f c, fz, ap⟩
def Ent.frz (e : Ent) : Ent := match e with | ⟨size, n, c, _, ap⟩ => ⟨size, n, c, true, ap⟩
theorem Ent.frz_eq (e : Ent) : e.frz = { e with fz := true } := rfl
def cellOf (v : AV) : Cell :=
  match v with
  | .c x => x
  | .nil z => .sl z 0 fun _ _ => .bool false
  | _ => .bool false
def isDat (v : AV) : Prop :=
  match v with
  | .c _ => True
  | .nil _ => True
  | _ => False
def appC {α : Type} (c : Nat → Nat → α) (len : Nat) (g : Nat → Nat → α) : Nat → Nat → α :=
  fun i j => bif Nat.ble len i then g (i - len) j else c i j
def frzC0 (hp : Nat → Option Ent) (gc : Nat → Nat) (v : AV) : M (Cell × List (Nat × Ent)) :=
  match v with
  | .c x => .ret (x, [])
  | .nil z => .ret (.sl z 0 fun _ _ => .bool false, [])
  | .os s q size off len => getE hp gc s q fun e => iff' (Nat.beq e.size size) (.need (off + len ≤ e.n) (
      match e.c with
      | .dat c => .ret (.sl size len fun i j => c (off + i) j, [(s, { e with fz := true })])
      | .gen c => .need (∀ i, i < len → ∀ j, j < size → isDat (c (off + i) j)) (.ret (.sl size len fun i j => cellOf (c (off + i) j), [(s, { e with fz := true })]))
      | .var _ => .no))
  | _ => .no
def frzC (hp : Nat → Option Ent) (gc : Nat → Nat) (v : AV) : M (Cell × List (Nat × Ent)) :=
  match v with
  | .c x => .ret (x, [])
  | .nil z => .ret (.sl z 0 fun _ _ => .bool false, [])
  | .os s q size off len => getE hp gc s q fun e => iff' (Nat.beq e.size size) (.need (off + len ≤ e.n) (
      match e.c with
      | .dat c => .ret (.sl size len fun i j => c (addN off i) j, [(s, e.frz)])
      | .gen c => .need (∀ i, i < len → ∀ j, j < size → isDat (c (addN off i) j)) (.ret (.sl size len fun i j => cellOf (c (addN off i) j), [(s, e.frz)]))
      | .var _ => .no))
  | _ => .no
def frzN (hp : Nat → Option Ent) (gc : Nat → Nat) : Nat → Nat → (Nat → AV) → M ((Nat → Cell) × List (Nat × Ent))
  | 0, _, _ => .ret (fun _ => .bool false, [])
  | m + 1, j, f => (frzC hp gc (f j)).bind fun x => match x with
    | (x1, x2) => (frzN (putH x2 hp) gc m (j + 1) f).bind fun y => match y with
      | (y1, y2) => .ret (fun i => match i with | 0 => x1 | i + 1 => y1 i, x2 ++ y2)
def stoV (hp : Nat → Option Ent) (gc : Nat → Nat) (keep : Bool) (v : AV) : M (AV × List (Nat × Ent)) :=
  match v with
  | .os s q size off len => bif keep then .ret (.os s q size off len, []) else (frzC hp gc (.os s q size off len)).bind fun x => match x with | (x1, x2) => .ret (.c x1, x2)
  | .c x => .ret (.c x, [])
  | .nil z => bif keep then .ret (.nil z, []) else .ret (.c (.sl z 0 fun _ _ => .bool false), [])
  | _ => .no
def stoN (hp : Nat → Option Ent) (gc : Nat → Nat) (keep : Bool) : Nat → Nat → (Nat → AV) → M ((Nat → AV) × List (Nat × Ent))
  | 0, _, _ => .ret (fun _ => .undef, [])
  | m + 1, j, f => (stoV hp gc keep (f j)).bind fun x => match x with
    | (x1, x2) => (stoN (putH x2 hp) gc keep m (j + 1) f).bind fun y => match y with
      | (y1, y2) => .ret (fun i => match i with | 0 => x1 | i + 1 => y1 i, x2 ++ y2)
def EC.updN (e : EC) (row col : Nat) : Nat → (Nat → AV) → EC
  | 0, _ => e
  | m + 1, f => EC.updN (e.upd1 row col (f 0)) row (col + 1) m fun j => f (j + 1)
def srcV0 {α : Type} (hp : Nat → Option Ent) (gc : Nat → Nat) (size : Nat) (v : AV) (K : Nat → (Nat → Nat → Cell) → M α) : M α :=
  match v with
  | .nil _ => K 0 fun _ _ => .bool false
  | .c (.sl sz n f) => iff' (Nat.beq sz size) (K n f)
  | .os s q sz off len => getE hp gc s q fun e => iff' (Nat.beq e.size size && Nat.beq sz size) (.need (off + len ≤ e.n) (
      match e.c with
      | .dat c => K len fun i j => c (off + i) j
      | .gen c => .need (∀ i, i < len → ∀ j, j < size → isDat (c (off + i) j)) (K len fun i j => cellOf (c (off + i) j))
      | .var _ => .no))
  | _ => .no
def srcV {α : Type} (hp : Nat → Option Ent) (gc : Nat → Nat) (size : Nat) (v : AV) (K : Nat → (Nat → Nat → Cell) → M α) : M α :=
  match v with
  | .nil _ => K 0 fun _ _ => .bool false
  | .c (.sl sz n f) => iff' (Nat.beq sz size) (K n f)
  | .os s q sz off len => getE hp gc s q fun e => iff' (Nat.beq e.size size && Nat.beq sz size) (.need (off + len ≤ e.n) (
      match e.c with
      | .dat c => K len fun i j => c (addN off i) j
      | .gen c => .need (∀ i, i < len → ∀ j, j < size → isDat (c (addN off i) j)) (K len fun i j => cellOf (c (addN off i) j))
      | .var _ => .no))
  | _ => .no
def rowsL : List (Nat × (Nat → Cell)) → (Nat → Nat → Cell) → Nat → Nat → Cell
  | [], c, i, j => c i j
  | (r, f) :: l, c, i, j => bif Nat.beq i r then f j else rowsL l c i j
def partsL (hp : Nat → Option Ent) (gc : Nat → Nat) (fr : Nat → AV) (size : Nat) : List (Nat × Opd) → M (List (Nat × (Nat → Cell)) × List (Nat × Ent))
  | [] => .ret ([], [])
  | (r, x) :: l => (rd True fr x).bind fun v => (match v with
    | .agg n f => iff' (Nat.beq n size) (frzN hp gc n 0 f)
    | v => iff' (Nat.beq 1 size) (frzN hp gc 1 0 fun _ => v)).bind fun y => match y with
      | (y1, y2) => (partsL (putH y2 hp) gc fr size l).bind fun z => match z with
        | (z1, z2) => .ret ((r, y1) :: z1, y2 ++ z2)
def notVar (e : Ent) {α : Type} (m : M α) : M α :=
  match e.c with
  | .var _ => .no
  | .dat _ => m
  | .gen _ => m
def isUn (e : Ent) {α : Type} (m : M α) : M α := bif e.fz then .no else m
def Dl.var (st : St) (d size : Nat) (c : Nat → AV) : Dl := .new d (.va d (st.gc d + 1) 0) size 1 (.var c) true
def Dl.arr (st : St) (d size n : Nat) (c : Nat → Nat → AV) : Dl := .new d (.ra d (st.gc d + 1) size 0 0) size n (.gen c) true
def Dl.sli (st : St) (d size n : Nat) (c : EC) (ap : Bool) : Dl := .new d (.os d (st.gc d + 1) size 0 n) size n c ap
def mkC (z : List Cst) : EC :=
  match z with
  | [] => .dat fun _ j => cells z j
  | c :: r => match r with
    | [] => (match c with
      | .nil k => .gen fun _ _ => .nil k
      | _ => .dat fun _ j => cells z j)
    | _ :: _ => .dat fun _ j => cells z j
def effS (op : AOp) (d : Nat) (cnd : Prop) (st : St) : M Dl :=
  match op with
  | .val p => (pv st.hp st.gc cnd st.fr p).bind fun v => .ret (.val v)
  | .alloc size z => .ret (.var st d size (avs z))
  | .allocR rows size z => .ret (.arr st d size rows fun _ j => avs z j)
  | .box size x => (rd True st.fr x).bind fun v => (match v with
    | .agg n f => iff' (Nat.beq n size) (.ret (.var st d size f))
    | v => iff' (Nat.beq 1 size) (isOne v (.ret (.var st d 1 fun _ => v))))
  | .boxR n x => (rd True st.fr x).bind fun v => (match v with
    | .agg m f => iff' (Nat.beq m n) (.ret (.arr st d 1 n fun i _ => f i))
    | _ => .no)
  | .buildS size len z parts => (partsL st.hp st.gc st.fr size parts).bind fun l =>
      .ret ⟨.os d (st.gc d + 1) size 0 len, l.2 ++ [(d, ⟨size, len, .dat (rowsL l.1 fun _ j => cells z j), false, true⟩)], [d]⟩
  | .mk size bytes z n => (rd True st.fr n).bind fun v => asI v fun _ n =>
      .need (0 ≤ n ∧ n * bytes ≤ 140737488355328 ∧ n ≤ 140737488355328) (.ret (.sli st d size n.toNat (mkC z) true))
  | .mk2 size bytes z n c => (rd True st.fr n).bind fun v => asI v fun k n => (rd True st.fr c).bind fun v => asI v fun k' c => iff' (isK k k') (
      .need (0 ≤ n ∧ n ≤ c ∧ c * bytes ≤ 140737488355328 ∧ c ≤ 140737488355328) (.ret (.sli st d size n.toNat (mkC z) true)))
  | .s2b x => (rd True st.fr x).bind fun v => asS v fun l =>
      .need (l.length ≤ 140737488355328) <| .ret (.sli st d 1 l.length (.dat fun i _ => .int .u8 (l.getD i 0).toNat) false)
  | .app size bytes x y => (rd True st.fr x).bind fun v => (rd True st.fr y).bind fun u => srcV st.hp st.gc size u fun m g =>
      (match v with
      | .nil _ => .need (m * bytes ≤ 140737488355328 ∧ m ≤ 140737488355328) (.ret (.sli st d size m (.dat g) true))
      | .os s q sz off len => getE st.hp st.gc s q fun e => iff' (Nat.beq e.size size && Nat.beq sz size && e.ap) (isUn e (
            .need (off = 0 ∧ e.n = len) (.need ((len + m) * bytes ≤ 140737488355328 ∧ len + m ≤ 140737488355328)
              (match e.c with
                | .dat c => .ret (.sli st s size (len + m) (.dat (appC c len g)) true)
                | .gen c => .ret (.sli st s size (len + m) (.gen (appC c len fun i j => .c (g i j))) true)
                | .var _ => .no))))
      | _ => .no)
  | .appZ size bytes z x n => (rd True st.fr x).bind fun v => (rd True st.fr n).bind fun u => asI u fun _ n => (match v with
      | .nil _ => .need (0 < n ∧ n * bytes ≤ 140737488355328 ∧ n ≤ 140737488355328) (.ret (.sli st d size n.toNat (mkC z) true))
      | _ => .no)
  | .st1 keep x v => (rd True st.fr x).bind fun p => (rd True st.fr v).bind fun v => (stoV st.hp st.gc keep v).bind fun u => (match p with
    | .va s q col => getE (putH u.2 st.hp) st.gc s q fun e => varE e col 1 fun _ => isUn e (.ret ⟨.undef, u.2 ++ [(s, { e with c := e.c.upd1 0 col u.1 })], []⟩)
    | .ra s q size row col => getE (putH u.2 st.hp) st.gc s q fun e => rowE e size row col 1 (notVar e <| isUn e (.ret ⟨.undef, u.2 ++ [(s, { e with c := e.c.upd1 row col u.1 })], []⟩))
    | _ => .no)
  | .stA keep m x v => (rd True st.fr x).bind fun p => (rd True st.fr v).bind fun v => (match v with
    | .agg n f => iff' (Nat.beq n m) ((stoN st.hp st.gc keep m 0 f).bind fun u => (match p with
      | .va s q col => getE (putH u.2 st.hp) st.gc s q fun e => varE e col m fun _ => isUn e (.ret ⟨.undef, u.2 ++ [(s, { e with c := e.c.updN 0 col m u.1 })], []⟩)
      | .ra s q size row col => getE (putH u.2 st.hp) st.gc s q fun e => rowE e size row col m (notVar e <| isUn e (.ret ⟨.undef, u.2 ++ [(s, { e with c := e.c.updN row col m u.1 })], []⟩))
      | _ => .no))
    | _ => .no)
  | .stR m x v => (rd True st.fr x).bind fun p => (rd True st.fr v).bind fun v => (match v with
    | .agg n f => iff' (Nat.beq n m) (match p with
      | .ra s q size row col => getE st.hp st.gc s q fun e => iff' (Nat.beq size 1 && Nat.beq e.size 1 && Nat.beq row 0 && Nat.beq col 0) (isUn e (.need (e.n = m)
          (.ret ⟨.undef, [(s, { e with c := .gen fun i _ => f i })], []⟩)))
      | _ => .no)
    | _ => .no)
  | .call .. => .no
  | .callv .. => .no
  | .halt => .no
def Dl.varC (gc : Nat → Nat) (d size : Nat) (c : Nat → AV) : Dl := .new d (.va d (gc d + 1) 0) size 1 (.var c) true
def Dl.arrC (gc : Nat → Nat) (d size n : Nat) (c : Nat → Nat → AV) : Dl := .new d (.ra d (gc d + 1) size 0 0) size n (.gen c) true
def Dl.sliC (gc : Nat → Nat) (d size n : Nat) (c : EC) (ap : Bool) : Dl := .new d (.os d (gc d + 1) size 0 n) size n c ap
def effC (op : AOp) (d : Nat) (cnd : Prop) (fr : Nat → AV) (hp : Nat → Option Ent) (gc : Nat → Nat) : M Dl :=
  match op with
  | .val p => (pv hp gc cnd fr p).bind fun v => .ret (.val v)
  | .alloc size z => .ret (.varC gc d size (avs z))
  | .allocR rows size z => .ret (.arrC gc d size rows fun _ j => avs z j)
  | .box size x => (rd True fr x).bind fun v => (match v with
    | .agg n f => iff' (Nat.beq n size) (.ret (.varC gc d size f))
    | v => iff' (Nat.beq 1 size) (isOne v (.ret (.varC gc d 1 fun _ => v))))
  | .boxR n x => (rd True fr x).bind fun v => (match v with
    | .agg m f => iff' (Nat.beq m n) (.ret (.arrC gc d 1 n fun i _ => f i))
    | _ => .no)
  | .buildS size len z parts => (partsL hp gc fr size parts).bind fun l => match l with
      | (l1, l2) => .ret ⟨.os d (gc d + 1) size 0 len, l2 ++ [(d, ⟨size, len, .dat (rowsL l1 fun _ j => cells z j), false, true⟩)], [d]⟩
  | .mk size bytes z n => (rd True fr n).bind fun v => asI v fun _ n =>
      .need (0 ≤ n ∧ n * bytes ≤ 140737488355328 ∧ n ≤ 140737488355328) (.ret (.sliC gc d size n.toNat (mkC z) true))
  | .mk2 size bytes z n c => (rd True fr n).bind fun v => asI v fun k n => (rd True fr c).bind fun v => asI v fun k' c => iff' (isK k k') (
      .need (0 ≤ n ∧ n ≤ c ∧ c * bytes ≤ 140737488355328 ∧ c ≤ 140737488355328) (.ret (.sliC gc d size n.toNat (mkC z) true)))
  | .s2b x => (rd True fr x).bind fun v => asS v fun l =>
      .need (l.length ≤ 140737488355328) <| .ret (.sliC gc d 1 l.length (.dat fun i _ => .int .u8 (l.getD i 0).toNat) false)
  | .app size bytes x y => (rd True fr x).bind fun v => (rd True fr y).bind fun u => srcV hp gc size u fun m g =>
      (match v with
      | .nil _ => .need (m * bytes ≤ 140737488355328 ∧ m ≤ 140737488355328) (.ret (.sliC gc d size m (.dat g) true))
      | .os s q sz off len => getE hp gc s q fun e => iff' (Nat.beq e.size size && Nat.beq sz size && e.ap) (isUn e (
            .need (off = 0 ∧ e.n = len) (.need ((len + m) * bytes ≤ 140737488355328 ∧ len + m ≤ 140737488355328)
              (match e.c with
                | .dat c => .ret (.sliC gc s size (len + m) (.dat (appC c len g)) true)
                | .gen c => .ret (.sliC gc s size (len + m) (.gen (appC c len fun i j => .c (g i j))) true)
                | .var _ => .no))))
      | _ => .no)
  | .appZ size bytes z x n => (rd True fr x).bind fun v => (rd True fr n).bind fun u => asI u fun _ n => (match v with
      | .nil _ => .need (0 < n ∧ n * bytes ≤ 140737488355328 ∧ n ≤ 140737488355328) (.ret (.sliC gc d size n.toNat (mkC z) true))
      | _ => .no)
  | .st1 keep x v => (rd True fr x).bind fun p => (rd True fr v).bind fun v => (stoV hp gc keep v).bind fun u => match u with | (u1, u2) => (match p with
    | .va s q col => getE (putH u2 hp) gc s q fun e => varE e col 1 fun _ => isUn e (.ret ⟨.undef, u2 ++ [(s, e.mod fun c => c.upd1 0 col u1)], []⟩)
    | .ra s q size row col => getE (putH u2 hp) gc s q fun e => rowE e size row col 1 (notVar e <| isUn e (.ret ⟨.undef, u2 ++ [(s, e.mod fun c => c.upd1 row col u1)], []⟩))
    | _ => .no)
  | .stA keep m x v => (rd True fr x).bind fun p => (rd True fr v).bind fun v => (match v with
    | .agg n f => iff' (Nat.beq n m) ((stoN hp gc keep m 0 f).bind fun u => match u with | (u1, u2) => (match p with
      | .va s q col => getE (putH u2 hp) gc s q fun e => varE e col m fun _ => isUn e (.ret ⟨.undef, u2 ++ [(s, e.mod fun c => c.updN 0 col m u1)], []⟩)
      | .ra s q size row col => getE (putH u2 hp) gc s q fun e => rowE e size row col m (notVar e <| isUn e (.ret ⟨.undef, u2 ++ [(s, e.mod fun c => c.updN row col m u1)], []⟩))
      | _ => .no))
    | _ => .no)
  | .stR m x v => (rd True fr x).bind fun p => (rd True fr v).bind fun v => (match v with
    | .agg n f => iff' (Nat.beq n m) (match p with
      | .ra s q size row col => getE hp gc s q fun e => iff' (Nat.beq size 1 && Nat.beq e.size 1 && Nat.beq row 0 && Nat.beq col 0) (isUn e (.need (e.n = m)
          (.ret ⟨.undef, [(s, e.mod fun _ => .gen fun i _ => f i)], []⟩)))
      | _ => .no)
    | _ => .no)
  | .call .. => .no
  | .callv .. => .no
  | .halt => .no
def eff (op : AOp) (d : Nat) (cnd : Prop) (st : St) : M Dl := match st with | ⟨fr, hp, gc⟩ => effC op d cnd fr hp gc
theorem eff_eq (op : AOp) (d : Nat) (cnd : Prop) (st : St) : eff op d cnd st = effS op d cnd st := by
  cases st
  cases op <;> rfl
/-! ### Calls -/

def RP (O : Nat → Prop) (w : World) : PV → Value → Prop
  | .one x, v => RC O w x v
  | .many n f, v => ∃ cs : Array Value, v = .agg cs ∧ cs.size = n ∧ ∀ j, j < n → ∃ u, cs[j]? = some u ∧ u.oneCell' = true ∧ RC O w (f j) u
  | .nil _, v => v = .slice none 0 0
def RO (O : Nat → Prop) (w : World) (B : Nat) (b : Option Nat) (size n : Nat) (f : Nat → Nat → Cell) (v : Value) : Prop :=
  (b = none ∧ n = 0 ∧ v = .slice none 0 0) ∨ ∃ b' o cap cs el, b = some b' ∧ B ≤ b' ∧ v = .slice (some ⟨b', o, none⟩) n cap ∧ n ≤ cap ∧ cap ≤ 9223372036854775807 ∧ (o + cap * size ≤ cs.size ∧ (0 < cap → o = 0)) ∧
    w.heap[b']? = some (.cells cs el (0, 0)) ∧ (∀ (i : Nat) (u : Value), cs[i]? = some u → u.oneCell' = true) ∧
    ∀ i, i < n → ∀ j, j < size → ∃ u, cs[i * size + j]? = some u ∧ RC O w (f i j) u
def RR1 (O : Nat → Prop) (B : Nat) (w : World) (b : Option Nat) : RCell → Value → Prop
  | .im x, v => RC O w x v
  | .ow size n f, v => RO O w B b size n f v
def RR (O : Nat → Prop) (B : Nat) (w : World) (bl : Nat → Option Nat) (i : Nat) : RV → Value → Prop
  | .one x, v => v.oneCell' = true ∧ RR1 O B w (bl (32 * i)) x v
  | .many n f, v => ∃ cs : Array Value, v = .agg cs ∧ cs.size = n ∧ n ≤ 32 ∧ ∀ j, j < n → ∃ u, cs[j]? = some u ∧ u.oneCell' = true ∧ RR1 O B w (bl (32 * i + j)) (f j) u
def resVal : List RV → Array Value → Value → Prop
  | [_], vs, v => vs.size = 1 ∧ vs[0]? = some v
  | res, vs, v => vs.size = res.length ∧ v = .tuple vs
def RRes (O : Nat → Prop) (B : Nat) (w : World) (res : List RV) (v : Value) : Prop :=
  ∃ (vs : Array Value) (bl : Nat → Option Nat), resVal res vs v ∧
    (∀ t b, bl t = some b → B ≤ b ∧ b < w.heap.size) ∧ (∀ t t' b, bl t = some b → bl t' = some b → t = t') ∧
    ∀ (i : Nat) (r : RV), res[i]? = some r → ∃ u, vs[i]? = some u ∧ RR (fun b => O b ∨ ∃ t, bl t = some b) B w bl i r u
def isGo (P : Program) (f : Nat) : Bool :=
  match P.funcs[f]? with
  | some fn => fn.body.isSome && !(fn.name == "runtime.NumGoroutine")
  | none => false
structure FnOk (P : Program) (f : Nat) (args : List PV) (res : List RV) : Prop where
  go : isGo P f = true
  calls : ∀ (O : Nat → Prop) (vs : Array Value) (w : World), (∀ b, O b → b < w.heap.size) → vs.size = args.length →
    (∀ (i : Nat) (p : PV), args[i]? = some p → ∃ u, vs[i]? = some u ∧ RP O w p u) →
    Calls P f vs w fun e w' => ∃ v, e = .returned v ∧ Below w.heap.size w w' ∧ RRes O w.heap.size w' res v
def CEq : Cell → Cell → Prop
  | .int k n, y => y = .int k n
  | .bool b, y => y = .bool b
  | .str s, y => y = .str s
  | .fn f, y => y = .fn f
  | .sl size n f, y => ∃ size' f', y = .sl size' n f' ∧ (0 < n → size' = size ∧ ∀ i, i < n → ∀ j, j < size → CEq (f i j) (f' i j))
inductive PVEq : PV → PV → Prop
  | one {x y : Cell} (h : CEq x y) : PVEq (.one x) (.one y)
  | many {n : Nat} {f g : Nat → Cell} (h : ∀ j, j < n → CEq (f j) (g j)) : PVEq (.many n f) (.many n g)
  | nil {z z' : Nat} : PVEq (.nil z) (.nil z')
  | nilc {z size : Nat} {f : Nat → Nat → Cell} : PVEq (.nil z) (.one (.sl size 0 f))
inductive PVsEq : List PV → List PV → Prop
  | nil : PVsEq [] []
  | cons {a b : PV} {r s : List PV} (h : PVEq a b) (t : PVsEq r s) : PVsEq (a :: r) (b :: s)
structure CallVC (cnd : Prop) (P : Program) (f : Nat) (args : List PV) (K : List RV → Prop) : Prop where
  out : ∃ args' res, (cnd → FnOk P f args' res) ∧ (cnd → PVsEq args args') ∧ K res
theorem CallVC.mk' {cnd : Prop} {P : Program} {f : Nat} {args args' : List PV} {res : List RV} {K : List RV → Prop}
    (h : cnd → FnOk P f args' res) (ha : cnd → PVsEq args args') (hk : K res) : CallVC cnd P f args K := ⟨args', res, h, ha, hk⟩
def argM (hp : Nat → Option Ent) (gc : Nat → Nat) (v : AV) : M (PV × List (Nat × Ent)) :=
  match v with
  | .agg n f => (frzN hp gc n 0 f).bind fun y => match y with | (y1, y2) => .ret (.many n y1, y2)
  | .nil z => .ret (.nil z, [])
  | v => (frzC hp gc v).bind fun y => match y with | (y1, y2) => .ret (.one y1, y2)
def argsM (cnd : Prop) (hp : Nat → Option Ent) (gc : Nat → Nat) (fr : Nat → AV) : List Opd → M (List PV × List (Nat × Ent))
  | [] => .ret ([], [])
  | x :: r => (rd cnd fr x).bind fun v => (argM hp gc v).bind fun p => match p with
    | (p1, p2) => (argsM cnd (putH p2 hp) gc fr r).bind fun l => match l with
      | (l1, l2) => .ret (p1 :: l1, p2 ++ l2)
def site (d t : Nat) : Nat := d + 1000 * (t + 1)
def rcAV (gc : Nat → Nat) (d t : Nat) : RCell → AV
  | .im x => .c x
  | .ow size n _ => .os (site d t) (gc (site d t) + 1) size 0 n
def rcL (gc : Nat → Nat) (d : Nat) : Nat → Nat → (Nat → RCell) → Nat → AV
  | _, 0, _ => fun _ => .undef
  | t, m + 1, f => fun j => match j with
    | 0 => rcAV gc d t (f 0)
    | j + 1 => rcL gc d (t + 1) m (fun j => f (j + 1)) j
def rvAV (gc : Nat → Nat) (d i : Nat) : RV → AV
  | .one x => rcAV gc d (32 * i) x
  | .many n f => .agg n (rcL gc d (32 * i) n f)
def rvAt (gc : Nat → Nat) (d : Nat) : List RV → Nat → Nat → AV
  | [], _, _ => .undef
  | r :: _, i, 0 => rvAV gc d i r
  | _ :: l, i, j + 1 => rvAt gc d l (i + 1) j
def resAV (gc : Nat → Nat) (d : Nat) (res : List RV) : AV :=
  match res with
  | [] => .tup 0 fun _ => .undef
  | r :: l => match l with
    | [] => rvAV gc d 0 r
    | _ :: _ => .tup res.length fun i => rvAt gc d res 0 i
def rcE (d t : Nat) (x : RCell) : List (Nat × Ent) :=
  match x with
  | .im _ => []
  | .ow size n f => [(site d t, ⟨size, n, .dat f, false, true⟩)]
def rcEs (d t : Nat) : Nat → (Nat → RCell) → List (Nat × Ent)
  | 0, _ => []
  | m + 1, f => rcE d t (f 0) ++ rcEs d (t + 1) m fun j => f (j + 1)
def rvE (d i : Nat) : RV → List (Nat × Ent)
  | .one x => rcE d (32 * i) x
  | .many n f => rcEs d (32 * i) n f
def rvEs (d : Nat) : Nat → List RV → List (Nat × Ent)
  | _, [] => []
  | i, r :: l => rvE d i r ++ rvEs d (i + 1) l
def sitesOf : List (Nat × Ent) → List Nat
  | [] => []
  | (s, _) :: r => s :: sitesOf r
def callD (gc : Nat → Nat) (d : Nat) (hs : List (Nat × Ent)) (res : List RV) : Dl :=
  ⟨resAV gc d res, hs ++ rvEs d 0 res, sitesOf (rvEs d 0 res)⟩
theorem ixS_eq (size : Nat) (x : AV) (i : Int) : ixS size x i = ixS0 size x i := by
  unfold ixS ixS0; simp only [addN_eq]
theorem slS_eq (size : Nat) (x : AV) (lo hi : Option Int) : slS size x lo hi = slS0 size x lo hi := by
  unfold slS slS0; simp only [addN_eq]
theorem b2s_eq (hp : Nat → Option Ent) (gc : Nat → Nat) (x : AV) : b2s hp gc x = b2s0 hp gc x := by
  unfold b2s b2s0; simp only [addN_eq]
theorem frzC_eq (hp : Nat → Option Ent) (gc : Nat → Nat) (v : AV) : frzC hp gc v = frzC0 hp gc v := by
  unfold frzC frzC0; simp only [addN_eq, Ent.frz_eq]
theorem srcV_eq {α : Type} (hp : Nat → Option Ent) (gc : Nat → Nat) (size : Nat) (v : AV) (K : Nat → (Nat → Nat → Cell) → M α) : srcV hp gc size v K = srcV0 hp gc size v K := by
  unfold srcV srcV0; simp only [addN_eq]
/-! ### Steps -/

def frc (v : AV) (K : AV → Prop) : Prop :=
  match v with
  | .undef => K .undef
  | .c x => (match x with
    | .int k n => K (.c (.int k n))
    | .bool b => K (.c (.bool b))
    | .str s => K (.c (.str s))
    | .sl size n f => K (.c (.sl size n f))
    | .fn f => K (.c (.fn f)))
  | .nil z => K (.nil z)
  | .os s q size off len => K (.os s q size off len)
  | .va s q col => K (.va s q col)
  | .ra s q size row col => K (.ra s q size row col)
  | .ip n f col => K (.ip n f col)
  | .agg n f => K (.agg n f)
  | .tup n f => K (.tup n f)
  | .may p x => K (.may p x)
  | .bl p => K (.bl p)
def isPure (x : Dl) {α : Type} (m : M α) : M α :=
  match x.hs with
  | [] => match x.gs with
    | [] => m
    | _ => .no
  | _ => .no
def goH : List (Nat × Ent) → (Nat → Option Ent) → ((Nat → Option Ent) → Prop) → Prop
  | [], hp, K => K hp
  | (s, e) :: r, hp, K => goH r (setH hp s e) K
def goG : List Nat → (Nat → Nat) → ((Nat → Nat) → Prop) → Prop
  | [], gc, K => K gc
  | s :: r, gc, K => goG r (bump gc s) K
def goD (fr : Nat → AV) (hp : Nat → Option Ent) (gc : Nat → Nat) (d : Option Nat) (wr : AV → AV) (x : Dl) (K : St → Prop) : Prop :=
  match x with
  | ⟨v, hs, gs⟩ => goH hs hp fun hp => goG gs gc fun gc => match d with
    | some d => frc v fun v => K ⟨setF fr d (wr v), hp, gc⟩
    | none => K ⟨fr, hp, gc⟩
def callP (P : Program) (cnd : Prop) (gd : Bool) (wr : AV → AV) (d : Option Nat) (f : Nat) (args : List Opd) (fr : Nat → AV) (hp : Nat → Option Ent) (gc : Nat → Nat) (K : St → Prop) : Prop :=
  (argsM cnd hp gc fr args).run fun x => match x with
    | (pvs, hs) => CallVC cnd P f pvs fun res => (match d with
      | some d => bif gd then (isPure (callD gc d [] res) (.ret ())).run fun _ => goD fr hp gc (some d) wr ⟨resAV gc d res, hs, []⟩ K
          else goD fr hp gc (some d) wr (callD gc d hs res) K
      | none => False)
def isFn (v : AV) (K : Nat → Prop) : Prop :=
  match v with
  | .c (.fn f) => K f
  | _ => False
def effO (K : St → Prop) (op : AOp) (d : Option Nat) (fr : Nat → AV) (hp : Nat → Option Ent) (gc : Nat → Nat) : Prop :=
  match d with
  | some k => (eff op k True ⟨fr, hp, gc⟩).run fun x => goD fr hp gc (some k) (fun v => v) x K
  | none => (eff op 0 True ⟨fr, hp, gc⟩).run fun x => goD fr hp gc none (fun v => v) x K
def stepO (P : Program) (op : AOp) (d : Option Nat) (fr : Nat → AV) (hp : Nat → Option Ent) (gc : Nat → Nat) (K : St → Prop) : Prop :=
  match op with
  | .call f args => callP P True false (fun v => v) d f args fr hp gc K
  | .callv x args => (rd True fr x).run fun v => isFn v fun f => callP P True false (fun v => v) d f args fr hp gc K
  | op => effO K op d fr hp gc
def stepG (P : Program) (cnd : Prop) (wr : AV → AV) (op : AOp) (d : Option Nat) (fr : Nat → AV) (hp : Nat → Option Ent) (gc : Nat → Nat) (K : St → Prop) : Prop :=
  match op with
  | .val p => ((pv hp gc cnd fr p).guard cnd).run fun v => goD fr hp gc d wr (.val v) K
  | .call f args => callP P cnd true wr d f args fr hp gc K
  | _ => False
def step (P : Program) (o : AOper) (st : St) (K : St → Prop) : Prop :=
  match st with
  | ⟨fr, hp, gc⟩ => match o with
    | ⟨d, op, gd⟩ => match gd with
      | none => stepO P op d fr hp gc K
      | some (g, want) => match fr g with
        | .c (.bool b) => stepG P (b = want) (.may (b = want)) op d fr hp gc K
        | .may p (.c (.bool b)) => stepG P (p ∧ b = want) (.may (p ∧ b = want)) op d fr hp gc K
        | _ => False
def stepL (P : Program) : List AOper → St → (St → Prop) → Prop
  | [], st, K => K st
  | o :: r, st, K => step P o st fun st' => stepL P r st' K
/-! ### Statements whose order is open -/

def AV.sites : AV → List Nat
  | .undef => []
  | .c _ => []
  | .nil _ => []
  | .os s _ _ _ _ => [s]
  | .va s _ _ => [s]
  | .ra s _ _ _ _ => [s]
  | .ip _ _ _ => []
  | .agg n f => (List.range n).flatMap fun j => (f j).sites
  | .tup n f => (List.range n).flatMap fun j => (f j).sites
  | .may _ v => v.sites
  | .bl _ => []
def Opd.slots : Opd → List Nat
  | .t i => [i]
  | .k _ => []
def oslots : Option Opd → List Nat
  | some x => x.slots
  | none => []
def POp.slots : POp → List Nat
  | .mov x => x.slots
  | .por c b => c.slots ++ b.slots
  | .pand c b => c.slots ++ b.slots
  | .build _ _ parts => parts.flatMap fun p => p.2.2.slots
  | .load1 x => x.slots
  | .loadA _ x => x.slots
  | .loadR _ x => x.slots
  | .field _ x => x.slots
  | .ixS _ x i => x.slots ++ i.slots
  | .ixA _ _ x i => x.slots ++ i.slots
  | .nilc x => x.slots
  | .bin _ _ x y => x.slots ++ y.slots
  | .eqA _ _ x y => x.slots ++ y.slots
  | .eqB _ x y => x.slots ++ y.slots
  | .nilS x => x.slots
  | .not x => x.slots
  | .com x => x.slots
  | .conv _ _ x => x.slots
  | .b2s x => x.slots
  | .slT x lo hi => x.slots ++ oslots lo ++ oslots hi
  | .slS _ x lo hi => x.slots ++ oslots lo ++ oslots hi
  | .slA _ _ x => x.slots
  | .idx x i => x.slots ++ i.slots
  | .idxA _ x i => x.slots ++ i.slots
  | .lenS x => x.slots
  | .lenT x => x.slots
  | .lenK _ => []
  | .capS x => x.slots
  | .fldA _ _ x => x.slots
  | .fld1 _ x => x.slots
  | .mm _ x xs => x.slots ++ xs.flatMap Opd.slots
  | .extr _ x => x.slots
def AOp.slots : AOp → List Nat
  | .val p => p.slots
  | .alloc _ _ => []
  | .allocR _ _ _ => []
  | .box _ x => x.slots
  | .boxR _ x => x.slots
  | .buildS _ _ _ parts => parts.flatMap fun p => p.2.slots
  | .mk _ _ _ n => n.slots
  | .mk2 _ _ _ n c => n.slots ++ c.slots
  | .s2b x => x.slots
  | .app _ _ x y => x.slots ++ y.slots
  | .appZ _ _ _ x n => x.slots ++ n.slots
  | .st1 _ x v => x.slots ++ v.slots
  | .stA _ _ x v => x.slots ++ v.slots
  | .stR _ x v => x.slots ++ v.slots
  | .call _ args => args.flatMap Opd.slots
  | .callv x args => x.slots ++ args.flatMap Opd.slots
  | .halt => []
def AOper.slots (o : AOper) : List Nat :=
  match o.gd with
  | some (g, _) => g :: o.op.slots
  | none => o.op.slots
def ment (fr : Nat → AV) (l : List Nat) : List Nat := l.flatMap fun k => (fr k).sites
def isVal : AOp → Bool
  | .val _ => true
  | _ => false
def AOper.looks (o : AOper) (fr : Nat → AV) : List Nat :=
  ment fr o.slots ++ (bif isVal o.op then [] else [o.d.getD 0])
def goW (fr : Nat → AV) (hp : Nat → Option Ent) (gc : Nat → Nat) (d : Option Nat) (wr : AV → AV) (x : Dl) (K : St → List Nat → Prop) : Prop :=
  match x with
  | ⟨v, hs, gs⟩ => goH hs hp fun hp => goG gs gc fun gc => match d with
    | some d => frc v fun v => K ⟨setF fr d (wr v), hp, gc⟩ (sitesOf hs ++ gs)
    | none => K ⟨fr, hp, gc⟩ (sitesOf hs ++ gs)
def callW (P : Program) (cnd : Prop) (gd : Bool) (wr : AV → AV) (d : Option Nat) (f : Nat) (args : List Opd) (fr : Nat → AV) (hp : Nat → Option Ent) (gc : Nat → Nat) (K : St → List Nat → Prop) : Prop :=
  (argsM cnd hp gc fr args).run fun x => match x with
    | (pvs, hs) => CallVC cnd P f pvs fun res => (match d with
      | some d => bif gd then (isPure (callD gc d [] res) (.ret ())).run fun _ => goW fr hp gc (some d) wr ⟨resAV gc d res, hs, []⟩ K
          else goW fr hp gc (some d) wr (callD gc d hs res) K
      | none => False)
def effOW (K : St → List Nat → Prop) (op : AOp) (d : Option Nat) (fr : Nat → AV) (hp : Nat → Option Ent) (gc : Nat → Nat) : Prop :=
  match d with
  | some k => (eff op k True ⟨fr, hp, gc⟩).run fun x => goW fr hp gc (some k) (fun v => v) x K
  | none => (eff op 0 True ⟨fr, hp, gc⟩).run fun x => goW fr hp gc none (fun v => v) x K
def stepWO (P : Program) (op : AOp) (d : Option Nat) (fr : Nat → AV) (hp : Nat → Option Ent) (gc : Nat → Nat) (K : St → List Nat → Prop) : Prop :=
  match op with
  | .call f args => callW P True false (fun v => v) d f args fr hp gc K
  | .callv x args => (rd True fr x).run fun v => isFn v fun f => callW P True false (fun v => v) d f args fr hp gc K
  | op => effOW K op d fr hp gc
def stepWG (P : Program) (cnd : Prop) (wr : AV → AV) (op : AOp) (d : Option Nat) (fr : Nat → AV) (hp : Nat → Option Ent) (gc : Nat → Nat) (K : St → List Nat → Prop) : Prop :=
  match op with
  | .val p => ((pv hp gc cnd fr p).guard cnd).run fun v => goW fr hp gc d wr (.val v) K
  | .call f args => callW P cnd true wr d f args fr hp gc K
  | _ => False
def stepW (P : Program) (o : AOper) (st : St) (K : St → List Nat → Prop) : Prop :=
  match st with
  | ⟨fr, hp, gc⟩ => match o with
    | ⟨d, op, gd⟩ => match gd with
      | none => stepWO P op d fr hp gc K
      | some (g, want) => match fr g with
        | .c (.bool b) => stepWG P (b = want) (.may (b = want)) op d fr hp gc K
        | .may p (.c (.bool b)) => stepWG P (p ∧ b = want) (.may (p ∧ b = want)) op d fr hp gc K
        | _ => False
def frcN : List Nat → (List Nat → Prop) → Prop
  | [], K => K []
  | n :: r, K => frcN r fun r => K (n :: r)
def frcR : List (List Nat × List Nat) → (List (List Nat × List Nat) → Prop) → Prop
  | [], K => K []
  | (a, b) :: r, K => frcN a fun a => frcN b fun b => frcR r fun r => K ((a, b) :: r)
theorem frcN_iff : ∀ (l : List Nat) (K : List Nat → Prop), frcN l K ↔ K l
  | [], K => Iff.rfl
  | _ :: r, K => frcN_iff r _
theorem frcR_iff : ∀ (l : List (List Nat × List Nat)) (K : List (List Nat × List Nat) → Prop), frcR l K ↔ K l
  | [], K => Iff.rfl
  | (a, b) :: r, K => by rw [frcR, frcN_iff, frcN_iff, frcR_iff r]
def stepWL (P : Program) : List AOper → St → List (List Nat × List Nat) → (St → List (List Nat × List Nat) → Prop) → Prop
  | [], st, rs, K => K st rs
  | o :: r, st, rs, K => stepW P o st fun st' ws => frcR (rs ++ [(o.looks st.fr, ws)]) fun rs => stepWL P r st' rs K
def apart : List Nat → List Nat → Bool
  | [], _ => true
  | x :: r, l => !(l.any (Nat.beq x)) && apart r l
def okU (rs : List (List Nat × List Nat)) : List (Nat × Nat) → Bool
  | [] => true
  | (i, j) :: r => (match rs[i]? with
    | some x => (match rs[j]? with
      | some y => apart x.2 y.1 && apart y.2 x.1 && apart x.2 y.2
      | none => false)
    | none => false) && okU rs r
/-! ### Laid anew: only these slots and blocks go on, written out -/

def normF : List Nat → (Nat → AV) → (Nat → AV) → ((Nat → AV) → Prop) → Prop
  | [], _, acc, K => K acc
  | k :: r, fr, acc, K => frc (fr k) fun v => normF r fr (setF acc k v) K
def rowF : Nat → Nat → (Nat → AV) → ((Nat → AV) → Prop) → Prop
  | 0, _, _, K => K fun _ => .undef
  | m + 1, j, f, K => frc (f j) fun v => rowF m (j + 1) f fun g => K (fun i => match i with | 0 => v | i + 1 => g i)
def normE (e : Ent) (K : Ent → Prop) : Prop :=
  match e with
  | ⟨size, n, c, fz, ap⟩ => match c with
    | .dat c => K ⟨size, n, .dat c, fz, ap⟩
    | .var c => rowF size 0 c fun g => K ⟨size, n, .var g, fz, ap⟩
    | .gen c => K ⟨size, n, .gen c, fz, ap⟩
def normH : List Nat → (Nat → Option Ent) → (Nat → Option Ent) → ((Nat → Option Ent) → Prop) → Prop
  | [], _, acc, K => K acc
  | s :: r, hp, acc, K => match hp s with
    | some e => normE e fun e => normH r hp (setH acc s e) K
    | none => normH r hp acc K
def norm (ks ss : List Nat) (st : St) (K : St → Prop) : Prop :=
  match st with
  | ⟨fr, hp, gc⟩ => normF ks fr (fun _ => .undef) fun fr => normH ss hp (fun _ => none) fun hp => K ⟨fr, hp, gc⟩
def normO (keep : Option (List Nat × List Nat)) (st : St) (K : St → Prop) : Prop :=
  match keep with
  | none => K st
  | some (ks, ss) => norm ks ss st K
/-! ### Results -/

def frzRN (hp : Nat → Option Ent) (gc : Nat → Nat) : Nat → (Nat → AV) → (Nat → RCell) → M (List (Nat × Ent))
  | 0, _, _ => .ret []
  | m + 1, f, g => match g 0 with
    | .im x => (frzC hp gc (f 0)).bind fun y => match y with
      | (y1, y2) => .need (CEq y1 x) ((frzRN (putH y2 hp) gc m (fun j => f (j + 1)) fun j => g (j + 1)).bind fun z => .ret (y2 ++ z))
    | .ow .. => frzRN hp gc m (fun j => f (j + 1)) fun j => g (j + 1)
def frzRV (hp : Nat → Option Ent) (gc : Nat → Nat) (v : AV) (r : RV) : M (List (Nat × Ent)) :=
  match r with
  | .one x => isOne v (frzRN hp gc 1 (fun _ => v) fun _ => x)
  | .many n g => match v with
    | .agg m f => iff' (Nat.beq m n && Nat.ble n 32) (frzRN hp gc n f g)
    | _ => .no
def frzRL (hp : Nat → Option Ent) (gc : Nat → Nat) : List AV → List RV → M (List (Nat × Ent))
  | [], [] => .ret []
  | v :: ks, r :: rs => (frzRV hp gc v r).bind fun y => (frzRL (putH y hp) gc ks rs).bind fun z => .ret (y ++ z)
  | _, _ => .no
def resL (hp : Nat → Option Ent) (gc : Nat → Nat) (fr : Nat → AV) : List POp → M (List AV)
  | [] => .ret []
  | p :: r => (pv hp gc True fr p).bind fun v => (resL hp gc fr r).bind fun l => .ret (v :: l)
def ownR1 (hp : Nat → Option Ent) (gc : Nat → Nat) (t : Nat) (v : AV) (x : RCell) : M (List (Nat × Option Nat)) :=
  match x with
  | .im _ => .ret []
  | .ow size n f => match v with
    | .nil _ => .need (n = 0) (.ret [(t, none)])
    | .os s q sz off len => getE hp gc s q fun e => iff' (Nat.beq sz size && Nat.beq e.size size && e.ap) (isUn e (.need (off = 0 ∧ len ≤ e.n ∧ n = len) (match e.c with
      | .dat c => .need (∀ i, i < n → ∀ j, j < size → CEq (c i j) (f i j)) (.ret [(t, some s)])
      | .gen c => .need (∀ i, i < n → ∀ j, j < size → isDat (c i j) ∧ CEq (cellOf (c i j)) (f i j)) (.ret [(t, some s)])
      | .var _ => .no)))
    | _ => .no
def ownRN (hp : Nat → Option Ent) (gc : Nat → Nat) : Nat → Nat → (Nat → AV) → (Nat → RCell) → M (List (Nat × Option Nat))
  | 0, _, _, _ => .ret []
  | m + 1, t, f, g => (ownR1 hp gc t (f 0) (g 0)).bind fun y => (ownRN hp gc m (t + 1) (fun j => f (j + 1)) fun j => g (j + 1)).bind fun z => .ret (y ++ z)
def ownRV (hp : Nat → Option Ent) (gc : Nat → Nat) (i : Nat) (v : AV) (r : RV) : M (List (Nat × Option Nat)) :=
  match r with
  | .one x => ownR1 hp gc (32 * i) v x
  | .many n g => match v with
    | .agg m f => iff' (Nat.beq m n) (ownRN hp gc n (32 * i) f g)
    | _ => .no
def ownRL (hp : Nat → Option Ent) (gc : Nat → Nat) : Nat → List AV → List RV → M (List (Nat × Option Nat))
  | _, [], [] => .ret []
  | i, v :: ks, r :: rs => (ownRV hp gc i v r).bind fun y => (ownRL hp gc (i + 1) ks rs).bind fun z => .ret (y ++ z)
  | _, _, _ => .no
def nodupN : List Nat → Bool
  | [] => true
  | x :: r => !(r.any (Nat.beq x)) && nodupN r
def somes : List (Nat × Option Nat) → List Nat
  | [] => []
  | (_, some s) :: r => s :: somes r
  | (_, none) :: r => somes r
structure Done : Prop where
def retP (rs : List POp) (res : List RV) (st : St) : Prop :=
  match st with
  | ⟨fr, hp, gc⟩ => (resL hp gc fr rs).run fun vs => (frzRL hp gc vs res).run fun hs => goH hs hp fun hp => (ownRL hp gc 0 vs res).run fun pl => bif nodupN (pl.map (·.1)) && nodupN (somes pl) then Done else False
/-! ### Code -/

inductive ACode where
  | skip
  | seq (a b : ACode)
  | cond (x : Opd) (a b : ACode)
  | block (id : Nat) (a : ACode)
  | loop (a : ACode)
  | exit (id : Nat)
  | ret
  | halt
  | scope (a : ACode)
  | reg (ops : List AOper) (keep : Option (List Nat × List Nat))
  | regD (ops : List AOper) (U : List (Nat × Nat)) (keep : Option (List Nat × List Nat))
inductive AX where
  | normal
  | exit (id : Nat)
  | ret
def Le (st st' : St) : Prop := ∀ O W N a w be, Rel O W N st a w be → ∃ be', Rel O W N st' a w be'
structure LoopEnd (p : Prop) : Prop where
  h : p
structure Out (f : St → Prop) (st : St) : Prop where
  h : f st
structure LoopVC (st : St) (body : (AX → St → Prop) → St → Prop) (Q : AX → St → Prop) : Prop where
  out : (∃ (X : Type) (S : X → St) (mu : X → Nat), (∃ x, Le st (S x)) ∧
    ∀ x, body (fun e st' => match e with
      | .normal => LoopEnd (∃ x', mu x' < mu x ∧ Le st' (S x'))
      | .exit id => Out (Q (.exit id)) st'
      | .ret => Out (Q .ret) st') (S x)) ∨
    (∃ (X : Type) (I : X → Prop) (S : X → St) (mu : X → Nat), (∃ x, I x ∧ Le st (S x)) ∧
    ∀ x, I x → body (fun e st' => match e with
      | .normal => LoopEnd (∃ x', I x' ∧ mu x' < mu x ∧ Le st' (S x'))
      | .exit id => Out (Q (.exit id)) st'
      | .ret => Out (Q .ret) st') (S x))
structure Both2 (c : Prop) (p q : St → Prop) (st : St) : Prop where
  l : c → p st
  r : q st
structure Both (c : Bool) (p q : St → Prop) (st : St) : Prop where
  l : c = true → p st
  r : c = false → q st
def awp (P : Program) : ACode → (AX → St → Prop) → St → Prop
  | .skip => fun Q st => Q .normal st
  | .seq a b => fun Q => awp P a (fun e st' => match e with
    | .normal => awp P b Q st'
    | .exit id => Q (.exit id) st'
    | .ret => Q .ret st')
  | .cond x a b => fun Q st => (rd True st.fr x).run fun v => match v with
    | .c (.bool c) => Both c (awp P a Q) (awp P b Q) st
    | .bl p => Both2 p (awp P a Q) (awp P b Q) st
    | _ => False
  | .block id a => fun Q => awp P a (fun e st' => match e with
    | .normal => Q .normal st'
    | .exit i => bif Nat.beq i id then Q .normal st' else Q (.exit i) st'
    | .ret => Q .ret st')
  | .loop a => fun Q st => LoopVC st (awp P a) Q
  | .exit id => fun Q st => Q (.exit id) st
  | .ret => fun Q st => Q .ret st
  | .halt => fun _ _ => False
  | .scope a => awp P a
  | .reg ops keep => fun Q st => stepL P ops st fun st' => normO keep st' (Q .normal)
  | .regD ops U keep => fun Q st => stepWL P ops st [] fun st' rs => bif okU rs U then normO keep st' (Q .normal) else False
def fin (rs : List POp) (res : List RV) : AX → St → Prop
  | .normal, st => retP rs res st
  | .exit _, _ => False
  | .ret, st => retP rs res st
def argF : List PV → Nat → Nat → AV
  | [], _ => fun _ => .undef
  | .one x :: r, k => setF (argF r (k + 1)) k (.c x)
  | .many n f :: r, k => setF (argF r (k + 1)) k (.agg n fun j => .c (f j))
  | .nil z :: r, k => setF (argF r (k + 1)) k (.nil z)
def St.init (args : List PV) : St := ⟨argF args 0, fun _ => none, fun _ => 0⟩
end
end Lk
namespace Lk
open Go Go.RowKit
section M
variable {α β : Type} {K : α → Prop} {L : β → Prop}
theorem M.run_ret (x : α) : (M.ret x).run K ↔ K x := Iff.rfl
theorem M.run_need (p : Prop) (m : M α) : (M.need p m).run K ↔ (p ∧ m.run K) := ⟨fun h => ⟨h.l, h.r⟩, fun h => ⟨h.1, h.2⟩⟩
theorem M.run_imp (c p : Prop) (m : M α) : (M.imp c p m).run K ↔ ((c → p) ∧ m.run K) := ⟨fun h => ⟨h.l, h.r⟩, fun h => ⟨h.1, h.2⟩⟩
theorem M.run_bind (m : M α) (f : α → M β) : (m.bind f).run L ↔ m.run (fun x => (f x).run L) := by
  induction m with
  | no => exact Iff.rfl
  | ret x => exact Iff.rfl
  | need p m ih => rw [M.bind, M.run_need, M.run_need, ih]
  | imp c p m ih => rw [M.bind, M.run_imp, M.run_imp, ih]
theorem M.run_iff' (b : Bool) (m : M α) : (iff' b m).run K ↔ (b = true ∧ m.run K) := by
  cases b <;> simp [iff', M.run]
theorem M.mono {K' : α → Prop} {m : M α} (h : m.run K) (hk : ∀ x, K x → K' x) : m.run K' := by
  induction m with
  | no => exact h
  | ret x => exact hk _ h
  | need p m ih => exact ⟨h.l, ih h.r⟩
  | imp c p m ih => exact ⟨h.l, ih h.r⟩
theorem M.split {m : M α} (h : m.run K) : ∃ x, m.run (fun y => y = x) ∧ K x := by
  induction m with
  | no => exact h.elim
  | ret x => exact ⟨x, rfl, h⟩
  | need p m ih => obtain ⟨x, h1, h2⟩ := ih h.r; exact ⟨x, ⟨h.l, h1⟩, h2⟩
  | imp c p m ih => obtain ⟨x, h1, h2⟩ := ih h.r; exact ⟨x, ⟨h.l, h1⟩, h2⟩
end M
theorem asI_run {α : Type} {v : AV} {f : IntKind → Int → M α} {K : α → Prop} (h : (asI v f).run K) : ∃ k n, v = .c (.int k n) ∧ (f k n).run K := by
  unfold asI at h; split at h
  · exact ⟨_, _, rfl, h⟩
  · exact h.elim
theorem asB_run {α : Type} {v : AV} {f : Bool → M α} {K : α → Prop} (h : (asB v f).run K) : ∃ b, v = .c (.bool b) ∧ (f b).run K := by
  unfold asB at h; split at h
  · exact ⟨_, rfl, h⟩
  · exact h.elim
theorem asS_run {α : Type} {v : AV} {f : List UInt8 → M α} {K : α → Prop} (h : (asS v f).run K) : ∃ b, v = .c (.str b) ∧ (f b).run K := by
  unfold asS at h; split at h
  · exact ⟨_, rfl, h⟩
  · exact h.elim
theorem rd_run {cnd : Prop} {fr : Nat → AV} {x : Opd} {K : AV → Prop} (h : (rd cnd fr x).run K) :
    ∃ v, K v ∧ (cnd → ∀ be ga O w u, RA be ga O w (opd fr x) u → RA be ga O w v u) := by
  unfold rd rdv at h
  split at h
  case h_1 p v hv => exact ⟨v, h.r, fun hc be ga O w u hu => by rw [hv] at hu; exact hu.1 (h.l hc)⟩
  all_goals
    rename_i hv
    exact ⟨_, h, fun _ be ga O w u hu => by rw [hv] at hu; exact hu⟩
theorem beqN {a b : Nat} (h : Nat.beq a b = true) : a = b := Nat.eq_of_beq_eq_true h
theorem isK_eq {k k' : IntKind} (h : isK k k' = true) : k = k' := by
  cases k <;> cases k' <;> first | rfl | (exfalso; revert h; decide)
/-! ### Operands -/

def chkC : Value → Cst → Bool
  | .int k n, .int k' n' => isK k k' && decide (n = n')
  | .bool b, .bool b' => b == b'
  | .string s, .str l => decide (s.data.toList = l)
  | .slice none n c, .nil _ => Nat.beq n 0 && Nat.beq c 0
  | _, _ => false
def chkX : Operand → Opd → Bool
  | .tmp t, .t k => Nat.beq t k
  | .const v, .k c => chkC v c
  | .func f, .k (.fn g) => Nat.beq f g
  | _, _ => false
theorem chkC_RA {v : Value} {c : Cst} (h : chkC v c = true) (be : Nm) (ga : Nat → Nat) (O : Nat → Prop) (w : World) : RA be ga O w c.av v := by
  unfold chkC at h
  split at h
  · rename_i k n k' n'
    simp only [Bool.and_eq_true, decide_eq_true_eq] at h
    obtain ⟨h1, rfl⟩ := h
    rw [isK_eq h1]; exact rfl
  · simp only [beq_iff_eq] at h; subst h; exact rfl
  · rename_i s l
    simp only [decide_eq_true_eq] at h
    subst h
    exact rfl
  · rename_i n c _
    simp only [Bool.and_eq_true] at h
    obtain rfl := beqN h.1
    obtain rfl := beqN h.2
    exact rfl
  · exact absurd h (by decide)
theorem chkC_one {v : Value} {c : Cst} (h : chkC v c = true) : v.oneCell' = true := by
  unfold chkC at h
  split at h <;> first | rfl | exact absurd h (by decide)
theorem chkC_RC {v : Value} {c : Cst} (h : chkC v c = true) (O : Nat → Prop) (w : World) : RC O w c.cell v := by
  unfold chkC at h
  split at h
  · rename_i k n k' n'
    simp only [Bool.and_eq_true, decide_eq_true_eq] at h
    obtain ⟨h1, rfl⟩ := h
    rw [isK_eq h1]; exact rfl
  · simp only [beq_iff_eq] at h; subst h; exact rfl
  · rename_i s l
    simp only [decide_eq_true_eq] at h
    subst h
    exact rfl
  · rename_i n c _
    simp only [Bool.and_eq_true] at h
    obtain rfl := beqN h.1
    obtain rfl := beqN h.2
    exact Or.inl ⟨rfl, _, rfl⟩
  · exact absurd h (by decide)
def Slots (be : Nm) (ga : Nat → Nat) (O : Nat → Prop) (w : World) (fr : Nat → AV) (a : Act) : Prop :=
  ∀ k, RA be ga O w (fr k) (a.tmps.getD k Go.undef)
theorem chkX_RA {be : Nm} {ga : Nat → Nat} {O : Nat → Prop} {w : World} {fr : Nat → AV} {a : Act} (hs : Slots be ga O w fr a) {x : Operand} {o : Opd} (h : chkX x o = true) :
    RA be ga O w (opd fr o) (a.eval x) := by
  unfold chkX at h
  split at h
  · obtain rfl := beqN h; exact hs _
  · exact chkC_RA h ..
  · obtain rfl := beqN h; exact rfl
  · exact absurd h (by decide)
def chkO : Option Operand → Option Opd → Bool
  | none, none => true
  | some x, some o => chkX x o
  | _, _ => false
/-! ### Types -/

def slE (P : Program) (t : TypeId) : Option TypeId :=
  match P.underlying t with
  | some (.slice e) => some e
  | _ => none
theorem slE_eq {P : Program} {t e : TypeId} (h : slE P t = some e) : P.underlying t = some (.slice e) := by
  unfold slE at h; split at h
  · rename_i h'; simp only [Option.some.injEq] at h; rw [h', h]
  · exact absurd h (by simp)
def szT (P : Program) (t : TypeId) (n : Nat) : Bool :=
  match P.info? t with
  | some i => Nat.beq i.size n
  | none => false
theorem szT_eq {P : Program} {t : TypeId} {n : Nat} (h : szT P t n = true) : ∃ i, P.info? t = some i ∧ i.size = n := by
  unfold szT at h; split at h
  · rename_i i hi; exact ⟨i, hi, by simpa using h⟩
  · exact absurd h (by decide)
def slT' (P : Program) (t : TypeId) (n : Nat) : Bool :=
  match slE P t with
  | some e => szT P e n
  | none => false
theorem slT'_eq {P : Program} {t : TypeId} {n : Nat} (h : slT' P t n = true) : ∃ e i, P.underlying t = some (.slice e) ∧ P.info? e = some i ∧ i.size = n := by
  unfold slT' at h; split at h
  · rename_i e he; obtain ⟨i, h1, h2⟩ := szT_eq h; exact ⟨e, i, slE_eq he, h1, h2⟩
  · exact absurd h (by decide)
theorem run_sizeOf {P : Program} {t : TypeId} {i : TypeInfo} (h : P.info? t = some i) (w : World) : (Go.sizeOf t).run P w = .ok i.size w := by
  simp [Go.sizeOf, typeInfo, h]
def isAggT (P : Program) (t : TypeId) : Bool :=
  match P.underlying t with
  | some (.struct _) => true
  | some (.array _ _) => true
  | _ => false
def isOneT (P : Program) (t : TypeId) : Bool :=
  match P.underlying t with
  | some (.struct _) => false
  | some (.array _ _) => false
  | some _ => true
  | none => false
theorem run_isAgg_true {P : Program} {t : TypeId} (h : isAggT P t = true) (w : World) : (isAgg t).run P w = .ok true w := by
  unfold isAggT at h
  split at h
  · rename_i h'; simp [isAgg, run_underlying h']
  · rename_i h'; simp [isAgg, run_underlying h']
  · exact absurd h (by decide)
theorem run_isAgg_false {P : Program} {t : TypeId} (h : isOneT P t = true) (w : World) : (isAgg t).run P w = .ok false w := by
  unfold isOneT at h
  split at h
  · exact absurd h (by decide)
  · exact absurd h (by decide)
  · rename_i d h1 h2 h'
    simp only [isAgg, Sem.run_bind, run_underlying h', Result.andThen_ok]
    cases d <;> first | rfl | exact absurd h' (by simp_all)
  · exact absurd h (by decide)
end Lk
namespace Lk
open Go Go.RowKit
theorem wrap_rng {k : IntKind} {n : Int} (h : rng k n) : k.wrap n = n := by
  cases k
  · exact IntWalk.i8_in n h
  · exact IntWalk.i16_in n h
  · exact IntWalk.i32_in n h
  · exact IntWalk.i64_in n h
  · exact IntWalk.u8_in n h
  · exact IntWalk.u16_in n h
  · exact IntWalk.u32_in n h
  · exact IntWalk.u64_in n h
section
variable {P : Program} {be : Nm} {ga : Nat → Nat} {O : Nat → Prop} {w : World} {fr : Nat → AV} {hp : Nat → Option Ent} {a : Act} {o : Oper} {cnd : Prop} {K : AV → Prop} {B : Nat}
theorem eval_const (a : Act) (v : Value) : a.eval (.const v) = v := rfl
def Ex (P : Program) (a : Act) (o : Oper) (w : World) (R : AV → Value → Prop) (v : AV) : Prop := ∃ u, (execOp a.eval o).run P w = .ok (.value u) w ∧ R v u
def Ents (be : Nm) (ga : Nat → Nat) (O : Nat → Prop) (w : World) (B : Nat) (hp : Nat → Option Ent) : Prop := ∀ s e, hp s = some e → EntOk be ga O w B s e
theorem rd_sound (hs : Slots be ga O w fr a) {x : Operand} {y : Opd} (hx : chkX x y = true) (h : (rd cnd fr y).run K) : ∃ v, K v ∧ (cnd → RA be ga O w v (a.eval x)) := by
  obtain ⟨v, hk, hv⟩ := rd_run h
  exact ⟨v, hk, fun hc => hv hc _ _ _ _ _ (chkX_RA hs hx)⟩
/-! moves -/

def cMov (op : Op) (x : Opd) : Bool :=
  match op with
  | .move y => chkX y x
  | .assign y => chkX y x
  | _ => false
theorem v_mov {x : Opd} (hs : Slots be ga O w fr a) (hc : cMov o.op x = true) (h : (pv hp ga cnd fr (.mov x)).run K) : ∃ v, K v ∧ (cnd → Ex P a o w (RA be ga O w) v) := by
  unfold cMov at hc
  split at hc
  · rename_i y ho
    replace h := rd_sound hs hc h
    obtain ⟨v, hk, hv⟩ := h
    exact ⟨v, hk, fun c => ⟨_, by simp [execOp, ho], hv c⟩⟩
  · rename_i y ho
    replace h := rd_sound hs hc h
    obtain ⟨v, hk, hv⟩ := h
    exact ⟨v, hk, fun c => ⟨_, by simp [execOp, ho], hv c⟩⟩
  · exact absurd hc (by decide)
def cPor (op : Op) (c b : Opd) : Bool :=
  match op with
  | .pick x (.const (.bool true)) y => chkX x c && chkX y b
  | _ => false
theorem v_por {c b : Opd} (hs : Slots be ga O w fr a) (hc : cPor o.op c b = true) (h : (pv hp ga cnd fr (.por c b)).run K) : ∃ v, K v ∧ (cnd → Ex P a o w (RA be ga O w) v) := by
  unfold cPor at hc
  split at hc
  · rename_i x y ho
    simp only [Bool.and_eq_true] at hc
    simp only [pv, M.run_bind] at h
    replace h := rd_sound hs hc.1 h
    obtain ⟨v, h, hv⟩ := h
    replace h := asB_run h
    obtain ⟨p, rfl, h⟩ := h
    rw [M.run_bind] at h
    replace h := rd_sound hs hc.2 h
    obtain ⟨u, h, hu⟩ := h
    replace h := asB_run h
    obtain ⟨q, rfl, h⟩ := h
    refine ⟨_, h, fun c => ?_⟩
    have e1 : a.eval x = .bool p := hv c
    cases p with
    | true => exact ⟨.bool true, by simp [execOp, ho, e1, asBool, eval_const], rfl⟩
    | false =>
      have e2 : a.eval y = .bool q := hu ⟨c, rfl⟩
      exact ⟨.bool q, by simp [execOp, ho, e1, e2, asBool], by simp [RA, RC]⟩
  · exact absurd hc (by decide)
def cPand (op : Op) (c b : Opd) : Bool :=
  match op with
  | .pick x y (.const (.bool false)) => chkX x c && chkX y b
  | _ => false
theorem v_pand {c b : Opd} (hs : Slots be ga O w fr a) (hc : cPand o.op c b = true) (h : (pv hp ga cnd fr (.pand c b)).run K) : ∃ v, K v ∧ (cnd → Ex P a o w (RA be ga O w) v) := by
  unfold cPand at hc
  split at hc
  · rename_i x y ho
    simp only [Bool.and_eq_true] at hc
    simp only [pv, M.run_bind] at h
    replace h := rd_sound hs hc.1 h
    obtain ⟨v, h, hv⟩ := h
    replace h := asB_run h
    obtain ⟨p, rfl, h⟩ := h
    rw [M.run_bind] at h
    replace h := rd_sound hs hc.2 h
    obtain ⟨u, h, hu⟩ := h
    replace h := asB_run h
    obtain ⟨q, rfl, h⟩ := h
    refine ⟨_, h, fun c => ?_⟩
    have e1 : a.eval x = .bool p := hv c
    cases p with
    | false => exact ⟨.bool false, by simp [execOp, ho, e1, asBool, eval_const], rfl⟩
    | true =>
      have e2 : a.eval y = .bool q := hu ⟨c, rfl⟩
      exact ⟨.bool q, by simp [execOp, ho, e1, e2, asBool], by simp [RA, RC]⟩
  · exact absurd hc (by decide)
/-! memory -/

theorem getE_run {α : Type} {L : α → Prop} {s q : Nat} {f : Ent → M α} (h : (getE hp ga s q f).run L) : q = ga s ∧ ∃ e, hp s = some e ∧ (f e).run L := by
  unfold getE at h
  rw [M.run_iff'] at h
  obtain ⟨h1, h⟩ := h
  refine ⟨beqN h1, ?_⟩
  split at h
  · rename_i e he; exact ⟨e, he, h⟩
  · exact h.elim
theorem varE_run {α : Type} {L : α → Prop} {e : Ent} {col m : Nat} {f : (Nat → AV) → M α} (h : (varE e col m f).run L) : ∃ c, e.c = .var c ∧ e.n = 1 ∧ col + m ≤ e.size ∧ (f c).run L := by
  unfold varE at h
  split at h
  · rename_i c hc
    rw [M.run_iff'] at h
    simp only [Bool.and_eq_true] at h
    exact ⟨c, hc, beqN h.1.1, Nat.le_of_ble_eq_true h.1.2, h.2⟩
  · exact h.elim
theorem rowE_run {α : Type} {L : α → Prop} {e : Ent} {size row col m : Nat} {x : M α} (h : (rowE e size row col m x).run L) : e.size = size ∧ col + m ≤ size ∧ row < e.n ∧ x.run L := by
  unfold rowE at h
  rw [M.run_iff'] at h
  simp only [Bool.and_eq_true] at h
  exact ⟨beqN h.1.1, Nat.le_of_ble_eq_true h.1.2, h.2.l, h.2.r⟩
theorem ent_at (he : Ents be ga O w B hp) {s : Nat} {e : Ent} (hs : hp s = some e) {b : Nat} (hb : be s (ga s) = some b) {row col : Nat} (hr : row < e.n) (hc : col < e.size) :
    ∃ u, w.cell? ⟨b, row * e.size + col, none⟩ = some u ∧ u.oneCell' = true ∧ RA be ga O w (e.c.at row col) u := by
  rcases he s e hs with ⟨_, h0⟩ | ⟨b', cs, el, fz, h1, h2, h3, h4⟩
  · omega
  · rw [hb] at h1
    obtain rfl := Option.some.inj h1
    obtain ⟨u, hu, hru⟩ := h4.cont row hr col hc
    exact ⟨u, by simp [World.cell?, h3, hu], h4.one _ u hu, hru⟩
theorem addr_add (b o n : Nat) : (⟨b, o, none⟩ : Addr).add n = ⟨b, o + n, none⟩ := by
  unfold Addr.add; split
  · rename_i h; subst h; rfl
  · rfl
theorem loadA_cells {t : TypeId} {i : TypeInfo} (hi : P.info? t = some i) (hagg : isAggT P t = true) {b off : Nat} {R : Nat → Value → Prop}
    (h : ∀ j, j < i.size → ∃ u, w.cell? ⟨b, off + j, none⟩ = some u ∧ u.oneCell' = true ∧ R j u) :
    ∃ cs : Array Value, (loadVar t ⟨b, off, none⟩).run P w = .ok (.agg cs) w ∧ cs.size = i.size ∧ ∀ j, j < i.size → ∃ u, cs[j]? = some u ∧ u.oneCell' = true ∧ R j u := by
  let f : Nat → Value := fun j => (w.cell? ⟨b, off + j, none⟩).getD Go.undef
  refine ⟨((List.range i.size).map f).toArray, ?_, by simp, fun j hj => ?_⟩
  · unfold loadVar
    have hl := run_loadCells (P := P) w ⟨b, off, none⟩ i.size f (fun j hj => by
      obtain ⟨u, hu, _⟩ := h j hj
      rw [addr_add, hu]
      show _ = some ((w.cell? ⟨b, off + j, none⟩).getD Go.undef)
      rw [hu]; rfl)
    simp [run_isAgg_true hagg, run_sizeOf hi, hl]
  · obtain ⟨u, hu, h1, hr⟩ := h j hj
    refine ⟨u, ?_, h1, hr⟩
    have : f j = u := by show (w.cell? ⟨b, off + j, none⟩).getD Go.undef = u; rw [hu]; rfl
    simp [hj, this]
theorem load1_cell {t : TypeId} (h1 : isOneT P t = true) {b off : Nat} {u : Value} (hu : w.cell? ⟨b, off, none⟩ = some u) :
    (loadVar t ⟨b, off, none⟩).run P w = .ok u w := by
  simp [loadVar, run_isAgg_false h1, hu]
def cLoad1 (P : Program) (op : Op) (x : Opd) : Bool :=
  match op with
  | .load t y => isOneT P t && chkX y x
  | _ => false
theorem v_load1 {x : Opd} (hs : Slots be ga O w fr a) (he : Ents be ga O w B hp) (hc : cLoad1 P o.op x = true) (h : (pv hp ga cnd fr (.load1 x)).run K) : ∃ v, K v ∧ (cnd → Ex P a o w (RA be ga O w) v) := by
  unfold cLoad1 at hc
  split at hc
  case h_2 => exact absurd hc (by decide)
  rename_i t y ho
  simp only [Bool.and_eq_true] at hc
  simp only [pv, M.run_bind] at h
  replace h := rd_sound hs hc.2 h
  obtain ⟨v, h, hv⟩ := h
  unfold load1 at h
  split at h
  · rename_i s q col
    replace h := getE_run h
    obtain ⟨hq, e, hse, h⟩ := h
    replace h := varE_run h
    obtain ⟨c, hec, hn, hcol, h⟩ := h
    refine ⟨_, h, fun cc => ?_⟩
    obtain ⟨_, b, hb, hp'⟩ := hv cc
    subst hq
    obtain ⟨u, hu, h1, hr⟩ := ent_at he hse hb (row := 0) (col := col) (by omega) (by omega)
    rw [Nat.zero_mul, Nat.zero_add] at hu
    refine ⟨u, ?_, by rw [hec] at hr; exact hr⟩
    simp [execOp, ho, hp', Instr.loadAt, Instr.sureAddr, load1_cell hc.1 hu]
  · rename_i s q size row col
    replace h := getE_run h
    obtain ⟨hq, e, hse, h⟩ := h
    replace h := rowE_run h
    obtain ⟨hz, hcol, hn, h⟩ := h
    refine ⟨_, h, fun cc => ?_⟩
    obtain ⟨_, b, hb, hp'⟩ := hv cc
    subst hq hz
    obtain ⟨u, hu, h1, hr⟩ := ent_at he hse hb (row := row) (col := col) hn (by omega)
    refine ⟨u, ?_, hr⟩
    simp [execOp, ho, hp', Instr.loadAt, Instr.sureAddr, load1_cell hc.1 hu]
  · rename_i n f col
    rw [M.run_iff'] at h
    refine ⟨_, h.2, fun cc => ?_⟩
    obtain ⟨b, off, hp', hcells⟩ := hv cc
    obtain ⟨_, u, hu, hr⟩ := hcells col (Nat.le_of_ble_eq_true h.1)
    refine ⟨u, ?_, hr⟩
    simp [execOp, ho, hp', Instr.loadAt, Instr.sureAddr, load1_cell hc.1 hu]
  · exact h.elim
theorem RC_one {x : Cell} {u : Value} (h : RC O w x u) : u.oneCell' = true := by
  cases x with
  | int k n => rw [show u = .int k n from h]; rfl
  | bool b => rw [show u = .bool b from h]; rfl
  | str s => rw [show u = .string ⟨⟨s⟩⟩ from h]; rfl
  | fn f => rw [show u = .func (.func f) #[] #[] from h]; rfl
  | sl size n f =>
    rcases h with ⟨_, p, h⟩ | ⟨b, off, cap, h, _⟩ <;> (rw [h]; rfl)
def cLoadA (P : Program) (op : Op) (m : Nat) (x : Opd) : Bool :=
  match op with
  | .load t y => isAggT P t && szT P t m && chkX y x
  | _ => false
theorem v_loadA {m : Nat} {x : Opd} (hs : Slots be ga O w fr a) (he : Ents be ga O w B hp) (hc : cLoadA P o.op m x = true) (h : (pv hp ga cnd fr (.loadA m x)).run K) : ∃ v, K v ∧ (cnd → Ex P a o w (RA be ga O w) v) := by
  unfold cLoadA at hc
  split at hc
  case h_2 => exact absurd hc (by decide)
  rename_i t y ho
  simp only [Bool.and_eq_true] at hc
  obtain ⟨⟨hagg, hsz⟩, hx⟩ := hc
  obtain ⟨i, hi, hm⟩ := szT_eq hsz
  simp only [pv, M.run_bind] at h
  replace h := rd_sound hs hx h
  obtain ⟨v, h, hv⟩ := h
  unfold loadA at h
  split at h
  · rename_i s q col
    replace h := getE_run h
    obtain ⟨hq, e, hse, h⟩ := h
    replace h := varE_run h
    obtain ⟨c, hec, hn, hcol, h⟩ := h
    refine ⟨_, h, fun cc => ?_⟩
    obtain ⟨_, b, hb, hp'⟩ := hv cc
    subst hq
    obtain ⟨cs, hl, hcs, hall⟩ := loadA_cells (P := P) (w := w) hi hagg (b := b) (off := col) (R := fun j u => RA be ga O w (c (col + j)) u) (fun j hj => by
      obtain ⟨u, hu, h1, hr⟩ := ent_at he hse hb (row := 0) (col := col + j) (by omega) (by omega)
      rw [Nat.zero_mul, Nat.zero_add] at hu
      rw [hec] at hr
      exact ⟨u, hu, h1, hr⟩)
    exact ⟨.agg cs, by simp [execOp, ho, hp', Instr.loadAt, Instr.sureAddr, hl], cs, rfl, hcs.trans hm, fun j hj => hall j (by omega)⟩
  · rename_i s q size row col
    replace h := getE_run h
    obtain ⟨hq, e, hse, h⟩ := h
    replace h := rowE_run h
    obtain ⟨hz, hcol, hn, h⟩ := h
    refine ⟨_, h, fun cc => ?_⟩
    obtain ⟨_, b, hb, hp'⟩ := hv cc
    subst hq hz
    obtain ⟨cs, hl, hcs, hall⟩ := loadA_cells (P := P) (w := w) hi hagg (b := b) (off := row * e.size + col) (R := fun j u => RA be ga O w (e.c.at row (col + j)) u) (fun j hj => by
      obtain ⟨u, hu, h1, hr⟩ := ent_at he hse hb (row := row) (col := col + j) hn (by omega)
      rw [← Nat.add_assoc] at hu
      exact ⟨u, hu, h1, hr⟩)
    exact ⟨.agg cs, by simp [execOp, ho, hp', Instr.loadAt, Instr.sureAddr, hl], cs, rfl, hcs.trans hm, fun j hj => hall j (by omega)⟩
  · rename_i n f col
    rw [M.run_iff'] at h
    have hle := Nat.le_of_ble_eq_true h.1
    refine ⟨_, h.2, fun cc => ?_⟩
    obtain ⟨b, off, hp', hcells⟩ := hv cc
    obtain ⟨cs, hl, hcs, hall⟩ := loadA_cells (P := P) (w := w) hi hagg (b := b) (off := off + col) (R := fun j u => RC O w (f (col + j)) u) (fun j hj => by
      obtain ⟨_, u, hu, hr⟩ := hcells (col + j) (by omega)
      rw [← Nat.add_assoc] at hu
      exact ⟨u, hu, RC_one hr, hr⟩)
    exact ⟨.agg cs, by simp [execOp, ho, hp', Instr.loadAt, Instr.sureAddr, hl], cs, rfl, hcs.trans hm, fun j hj => hall j (by omega)⟩
  · exact h.elim
theorem v_loadR {m : Nat} {x : Opd} (hs : Slots be ga O w fr a) (he : Ents be ga O w B hp) (hc : cLoadA P o.op m x = true) (h : (pv hp ga cnd fr (.loadR m x)).run K) : ∃ v, K v ∧ (cnd → Ex P a o w (RA be ga O w) v) := by
  unfold cLoadA at hc
  split at hc
  case h_2 => exact absurd hc (by decide)
  rename_i t y ho
  simp only [Bool.and_eq_true] at hc
  obtain ⟨⟨hagg, hsz⟩, hx⟩ := hc
  obtain ⟨i, hi, hm⟩ := szT_eq hsz
  simp only [pv, M.run_bind] at h
  replace h := rd_sound hs hx h
  obtain ⟨v, h, hv⟩ := h
  unfold loadR at h
  split at h
  · rename_i s q size row col
    replace h := getE_run h
    obtain ⟨hq, e, hse, h⟩ := h
    rw [M.run_iff', M.run_need] at h
    simp only [Bool.and_eq_true] at h
    obtain ⟨⟨⟨⟨z1, z2⟩, z3⟩, z4⟩, hmn, h⟩ := h
    obtain ⟨z1, z2, z3, z4⟩ := And.intro (beqN z1) (And.intro (beqN z2) (And.intro (beqN z3) (beqN z4)))
    refine ⟨_, h, fun cc => ?_⟩
    obtain ⟨_, b, hb, hp'⟩ := hv cc
    subst hq z2 z3 z4
    obtain ⟨cs, hl, hcs, hall⟩ := loadA_cells (P := P) (w := w) hi hagg (b := b) (off := 0) (R := fun j u => RA be ga O w (e.c.at j 0) u) (fun j hj => by
      obtain ⟨u, hu, h1, hr⟩ := ent_at he hse hb (row := j) (col := 0) (by omega) (by omega)
      rw [z1] at hu
      rw [Nat.zero_add]
      exact ⟨u, by simpa using hu, h1, hr⟩)
    exact ⟨.agg cs, by simp [execOp, ho, hp', Instr.loadAt, Instr.sureAddr, hl], cs, rfl, hcs.trans hm, fun j hj => hall j (by omega)⟩
  · rename_i n f col
    rw [M.run_iff'] at h
    have hle := Nat.le_of_ble_eq_true h.1
    refine ⟨_, h.2, fun cc => ?_⟩
    obtain ⟨b, off, hp', hcells⟩ := hv cc
    obtain ⟨cs, hl, hcs, hall⟩ := loadA_cells (P := P) (w := w) hi hagg (b := b) (off := off + col) (R := fun j u => RC O w (f (col + j)) u) (fun j hj => by
      obtain ⟨_, u, hu, hr⟩ := hcells (col + j) (by omega)
      rw [← Nat.add_assoc] at hu
      exact ⟨u, hu, RC_one hr, hr⟩)
    exact ⟨.agg cs, by simp [execOp, ho, hp', Instr.loadAt, Instr.sureAddr, hl], cs, rfl, hcs.trans hm, fun j hj => hall j (by omega)⟩
  · exact h.elim
/-! addresses -/

def cField (P : Program) (op : Op) (off : Nat) (x : Opd) : Bool :=
  match op with
  | .fieldAddr s y f => (match P.underlying s with
    | some (.struct fs) => (match fs[f]? with
      | some fd => Nat.beq fd.offset off && (match P.info? fd.type with
        | some i => !(Nat.beq i.size 0)
        | none => false)
      | none => false)
    | _ => false) && chkX y x
  | _ => false
theorem fieldP_run {off : Nat} {v : AV} (h : (fieldP off v).run K) : ∃ v', K v' ∧ ∀ u, RA be ga O w v u → ∃ b n, u = .pointer (some ⟨b, n, none⟩) ∧ RA be ga O w v' (.pointer (some ⟨b, n + off, none⟩)) := by
  unfold fieldP at h
  split at h
  · refine ⟨_, h, fun u hu => ?_⟩
    obtain ⟨hq, b, hb, rfl⟩ := hu
    exact ⟨b, _, rfl, hq, b, hb, rfl⟩
  · refine ⟨_, h, fun u hu => ?_⟩
    obtain ⟨hq, b, hb, rfl⟩ := hu
    exact ⟨b, _, rfl, hq, b, hb, by rw [Nat.add_assoc]⟩
  · refine ⟨_, h, fun u hu => ?_⟩
    obtain ⟨b, o, rfl, hc⟩ := hu
    exact ⟨b, _, rfl, b, o, by rw [Nat.add_assoc], hc⟩
  · exact h.elim
theorem v_field {off : Nat} {x : Opd} (hs : Slots be ga O w fr a) (hc : cField P o.op off x = true) (h : (pv hp ga cnd fr (.field off x)).run K) : ∃ v, K v ∧ (cnd → Ex P a o w (RA be ga O w) v) := by
  unfold cField at hc
  split at hc
  case h_2 => exact absurd hc (by decide)
  rename_i s y f ho
  simp only [Bool.and_eq_true] at hc
  obtain ⟨ht, hx⟩ := hc
  simp only [pv, M.run_bind] at h
  replace h := rd_sound hs hx h
  obtain ⟨v, h, hv⟩ := h
  split at ht
  case h_2 => exact absurd ht (by decide)
  rename_i fs hfs
  split at ht
  case h_2 => exact absurd ht (by decide)
  rename_i fd hfd
  simp only [Bool.and_eq_true] at ht
  obtain ⟨hoff, ht⟩ := ht
  split at ht
  case h_2 => exact absurd ht (by decide)
  rename_i i hi
  obtain rfl := beqN hoff
  replace h := fieldP_run (be := be) (ga := ga) (O := O) (w := w) h
  obtain ⟨v', hk, hv'⟩ := h
  refine ⟨v', hk, fun cc => ?_⟩
  obtain ⟨b, n, hu, hr⟩ := hv' _ (hv cc)
  have hz : i.size ≠ 0 := by
    intro h0; rw [h0] at ht; exact absurd ht (by decide)
  refine ⟨_, ?_, hr⟩
  simp [execOp, ho, hu, Instr.fieldAt, Instr.sureAddr, run_underlying hfs, hfd, fieldPlace, run_sizeOf hi, hz, addr_add]
def cNilc (op : Op) (x : Opd) : Bool :=
  match op with
  | .nilCheck y => chkX y x
  | _ => false
theorem v_nilc {x : Opd} (hs : Slots be ga O w fr a) (hc : cNilc o.op x = true) (h : (pv hp ga cnd fr (.nilc x)).run K) : ∃ v, K v ∧ (cnd → Ex P a o w (RA be ga O w) v) := by
  unfold cNilc at hc
  split at hc
  case h_2 => exact absurd hc (by decide)
  rename_i y ho
  simp only [pv, M.run_bind] at h
  replace h := rd_sound hs hc h
  obtain ⟨v, h, hv⟩ := h
  replace h := fieldP_run (be := be) (ga := ga) (O := O) (w := w) h
  obtain ⟨v', hk, hv'⟩ := h
  refine ⟨v', hk, fun cc => ?_⟩
  obtain ⟨b, n, hu, hr⟩ := hv' _ (hv cc)
  exact ⟨_, by simp [execOp, ho, hu], hr⟩
def cIxS (P : Program) (op : Op) (size : Nat) (x i : Opd) : Bool :=
  match op with
  | .indexAddr t y j => slT' P t size && chkX y x && chkX j i
  | _ => false
theorem v_ixS {size : Nat} {x i : Opd} (hs : Slots be ga O w fr a) (hc : cIxS P o.op size x i = true) (h : (pv hp ga cnd fr (.ixS size x i)).run K) : ∃ v, K v ∧ (cnd → Ex P a o w (RA be ga O w) v) := by
  unfold cIxS at hc
  split at hc
  case h_2 => exact absurd hc (by decide)
  rename_i t y j ho
  simp only [Bool.and_eq_true] at hc
  obtain ⟨⟨ht, hx⟩, hi⟩ := hc
  obtain ⟨e, inf, hu, hinf, hsz⟩ := slT'_eq ht
  simp only [pv, M.run_bind] at h
  replace h := rd_sound hs hx h
  obtain ⟨v, h, hv⟩ := h
  replace h := rd_sound hs hi h
  obtain ⟨v2, h, hv2⟩ := h
  replace h := asI_run h
  obtain ⟨k, n, rfl, h⟩ := h
  have run : ∀ b off l cap, a.eval y = .slice (some ⟨b, off, none⟩) l cap → a.eval j = .int k n → 0 ≤ n → n < l →
      (execOp a.eval o).run P w = .ok (.value (.pointer (some ⟨b, off + n.toNat * size, none⟩))) w := by
    intro b off l cap e1 e2 h0 h1
    subst hsz
    simp [execOp, ho, Instr.indexAt, e1, e2, asIntOf, run_underlying hu, h0, h1, run_sizeOf hinf, addr_add]
  rw [ixS_eq] at h
  unfold ixS0 at h
  split at h
  · rename_i sz m f
    rw [M.run_iff', M.run_need] at h
    obtain ⟨z, ⟨h0, h1⟩, h⟩ := h
    obtain rfl := beqN z
    refine ⟨_, h, fun cc => ?_⟩
    have e2 : a.eval j = .int k n := hv2 cc
    rcases hv cc with ⟨hm, _⟩ | ⟨b, off, cap, e1, hc1, hc2, hcells⟩
    · omega
    · refine ⟨_, run b off m cap e1 e2 h0 h1, b, off + n.toNat * sz, by simp, fun jj hj => ?_⟩
      exact hcells n.toNat (by omega) jj hj
  · rename_i s q sz off len
    rw [M.run_iff', M.run_need] at h
    obtain ⟨z, ⟨h0, h1⟩, h⟩ := h
    obtain rfl := beqN z
    refine ⟨_, h, fun cc => ?_⟩
    have e2 : a.eval j = .int k n := hv2 cc
    obtain ⟨hq, hv⟩ := hv cc
    rcases hv with ⟨_, _, hl, _⟩ | ⟨b, oo, cap, cs, el, fz, hb, e1, hc1, hc2, hc3, hh, hc4⟩
    · omega
    · refine ⟨_, run b oo len cap e1 e2 h0 h1, hq, b, hb, ?_⟩
      rw [hc3 (by omega), Nat.add_mul, Nat.add_zero]
  · exact absurd h.l id
  · exact h.elim
def cIxA (P : Program) (op : Op) (size len : Nat) (x i : Opd) : Bool :=
  match op with
  | .indexAddr t y j => (match P.underlying t with
    | some (.array l e) => Nat.beq l len && szT P e size
    | _ => false) && chkX y x && chkX j i
  | _ => false
theorem v_ixA {size len : Nat} {x i : Opd} (hs : Slots be ga O w fr a) (hc : cIxA P o.op size len x i = true) (h : (pv hp ga cnd fr (.ixA size len x i)).run K) : ∃ v, K v ∧ (cnd → Ex P a o w (RA be ga O w) v) := by
  unfold cIxA at hc
  split at hc
  case h_2 => exact absurd hc (by decide)
  rename_i t y j ho
  simp only [Bool.and_eq_true] at hc
  obtain ⟨⟨ht, hx⟩, hi⟩ := hc
  split at ht
  case h_2 => exact absurd ht (by decide)
  rename_i l e hu
  simp only [Bool.and_eq_true] at ht
  obtain rfl := beqN ht.1
  obtain ⟨inf, hinf, hsz⟩ := szT_eq ht.2
  simp only [pv, M.run_bind] at h
  replace h := rd_sound hs hx h
  obtain ⟨v, h, hv⟩ := h
  replace h := rd_sound hs hi h
  obtain ⟨v2, h, hv2⟩ := h
  replace h := asI_run h
  obtain ⟨k, n, rfl, h⟩ := h
  have run : ∀ b off, a.eval y = .pointer (some ⟨b, off, none⟩) → a.eval j = .int k n → 0 ≤ n → n < l →
      (execOp a.eval o).run P w = .ok (.value (.pointer (some ⟨b, off + n.toNat * size, none⟩))) w := by
    intro b off e1 e2 h0 h1
    subst hsz
    simp [execOp, ho, Instr.indexAt, e1, e2, asIntOf, Instr.sureAddr, run_underlying hu, h0, h1, run_sizeOf hinf, addr_add]
  unfold ixA at h
  split at h
  · rename_i s q sz row col
    rw [M.run_iff', M.run_need] at h
    simp only [Bool.and_eq_true] at h
    obtain ⟨⟨⟨z, z1⟩, z2⟩, ⟨h0, h1⟩, h⟩ := h
    obtain rfl := beqN z
    obtain rfl := beqN z1
    obtain rfl := beqN z2
    refine ⟨_, h, fun cc => ?_⟩
    obtain ⟨hq, b, hb, e1⟩ := hv cc
    have e2 : a.eval j = .int k n := hv2 cc
    exact ⟨_, run b _ e1 e2 h0 h1, hq, b, hb, by simp⟩
  · rename_i m f col
    rw [M.run_iff', M.run_need] at h
    obtain ⟨z, ⟨h0, h1⟩, h⟩ := h
    obtain rfl := beqN z
    refine ⟨_, h, fun cc => ?_⟩
    obtain ⟨b, off, e1, hcells⟩ := hv cc
    have e2 : a.eval j = .int k n := hv2 cc
    exact ⟨_, run b _ e1 e2 h0 h1, b, off, by simp [Nat.add_assoc], hcells⟩
  · exact h.elim
end
end Lk
namespace Lk
open Go Go.RowKit
section
variable {P : Program} {be : Nm} {ga : Nat → Nat} {O : Nat → Prop} {w : World} {fr : Nat → AV} {hp : Nat → Option Ent} {a : Act} {o : Oper} {cnd : Prop} {K : AV → Prop} {B : Nat}
/-! numbers -/

theorem binI_run {op : BinOp} {chk : Bool} {k : IntKind} {x y : Int} (h : (binI op chk k x y).run K) :
    ∃ v u, K v ∧ (∀ t, (binOp op t (.int k x) (.int k y)).run P w = .ok u w) ∧ RA be ga O w v u := by
  unfold binI at h
  split at h
  · cases chk
    · exact ⟨_, _, h, fun t => by simp [wrapI_eq, binOp, Op.intArith], rfl⟩
    · exact ⟨_, _, h.r, fun t => by simp [binOp, Op.intArith, wrap_rng h.l], rfl⟩
  · cases chk
    · exact ⟨_, _, h, fun t => by simp [wrapI_eq, binOp, Op.intArith], rfl⟩
    · exact ⟨_, _, h.r, fun t => by simp [binOp, Op.intArith, wrap_rng h.l], rfl⟩
  · cases chk
    · exact ⟨_, _, h, fun t => by simp [wrapI_eq, binOp, Op.intArith], rfl⟩
    · exact ⟨_, _, h.r, fun t => by simp [binOp, Op.intArith, wrap_rng h.l], rfl⟩
  · have h0 := h.l
    have hr := h.r.l
    refine ⟨_, _, h.r.r, fun t => ?_, rfl⟩
    have e1 : y ≠ 0 := by omega
    have e2 : x.tdiv y = x / y := Int.tdiv_eq_ediv_of_nonneg h0.1
    simp [binOp, Op.intDiv, e1, e2, wrap_rng hr]
  · have h0 := h.l
    refine ⟨_, _, h.r, fun t => ?_, rfl⟩
    have e1 : y ≠ 0 := by omega
    have e2 : x.tmod y = x % y := Int.tmod_eq_emod_of_nonneg h0.1
    simp [binOp, Op.intDiv, e1, e2]
  · exact ⟨_, _, h, fun t => by simp [binOp, Op.intBits, bitI_eq, bitI0], rfl⟩
  · exact ⟨_, _, h, fun t => by simp [binOp, Op.intBits, bitI_eq, bitI0], rfl⟩
  · exact ⟨_, _, h, fun t => by simp [binOp, Op.intBits, bitI_eq, bitI0], rfl⟩
  · exact ⟨_, _, h, fun t => by simp [binOp, Op.intCmp]; rfl, rfl⟩
  · exact ⟨_, _, h, fun t => by simp [binOp, Op.intCmp]; rfl, rfl⟩
  · exact ⟨_, _, h, fun t => by simp [binOp, Op.intCmp], rfl⟩
  · exact ⟨_, _, h, fun t => by simp [binOp, Op.intCmp], rfl⟩
  · exact ⟨_, _, h, fun t => by simp [binOp, Op.intCmp], rfl⟩
  · exact ⟨_, _, h, fun t => by simp [binOp, Op.intCmp], rfl⟩
  · exact h.elim
theorem binA_run {op : BinOp} {chk : Bool} {k k' : IntKind} {x y : Int} (h : (binA op chk k x k' y).run K) :
    ∃ v u, K v ∧ (∀ t, (binOp op t (.int k x) (.int k' y)).run P w = .ok u w) ∧ RA be ga O w v u := by
  unfold binA at h
  split at h
  · exact ⟨_, _, h.r, fun t => by have : ¬ y < 0 := by have := h.l; omega
                                  simp [binOp, Op.shift, this, shlI_eq], rfl⟩
  · exact ⟨_, _, h.r, fun t => by have : ¬ y < 0 := by have := h.l; omega
                                  simp [binOp, Op.shift, this, shrI_eq], rfl⟩
  all_goals first
    | exact h.elim
    | (rw [M.run_iff'] at h; rw [← isK_eq h.1]; exact binI_run h.2)
theorem list_beq (x y : List UInt8) : (x == y) = decide (x = y) := by
  rw [Bool.eq_iff_iff]; simp
theorem string_toList (l : List UInt8) : (⟨⟨l⟩⟩ : ByteArray).toList = l := ByteArray.toList_mk l
theorem binS_run {op : BinOp} {x y : List UInt8} (h : (binS op x y).run K) :
    ∃ v u, K v ∧ (∀ t, (binOp op t (.string ⟨⟨x⟩⟩) (.string ⟨⟨y⟩⟩)).run P w = .ok u w) ∧ RA be ga O w v u := by
  unfold binS at h
  split at h
  · refine ⟨_, _, h.r, fun t => ?_, rfl⟩
    rw [binOp_string_add, run_string_add_sum _ _ _ (by have := h.l; show x.length + y.length ≤ _; omega)]
    exact congrArg (fun s => Result.ok (Value.string s) w) (ByteArray.mk_append_mk x y)
  · exact ⟨_, _, h, fun t => by rw [binOp_string_eql, string_toList, string_toList]; rfl, by simp [RA, RC, list_beq]⟩
  · exact ⟨_, _, h, fun t => by rw [binOp_string_neq, string_toList, string_toList]; rfl, by simp [RA, RC, list_beq]⟩
  · exact h.elim
def cBin (op : Op) (b : BinOp) (x y : Opd) : Bool :=
  match op with
  | .binOp b' _ x' y' _ => decide (b' = b) && chkX x' x && chkX y' y
  | _ => false
theorem eqGuard_int (op : BinOp) (t : TypeId) (x y : Operand) (k : IntKind) (n : Int) (v : Value) : (eqGuard op t x y (.int k n) v).run P w = .ok () w := by
  cases op <;> simp [eqGuard]
theorem eqGuard_str (op : BinOp) (t : TypeId) (x y : Operand) (s : ByteArray) (v : Value) : (eqGuard op t x y (.string s) v).run P w = .ok () w := by
  cases op <;> simp [eqGuard]
theorem eqGuard_bool (op : BinOp) (t : TypeId) (x y : Operand) (s : Bool) (v : Value) : (eqGuard op t x y (.bool s) v).run P w = .ok () w := by
  cases op <;> simp [eqGuard]
theorem v_bin {op : BinOp} {chk : Bool} {x y : Opd} (hs : Slots be ga O w fr a) (hc : cBin o.op op x y = true) (h : (pv hp ga cnd fr (.bin op chk x y)).run K) : ∃ v, K v ∧ (cnd → Ex P a o w (RA be ga O w) v) := by
  unfold cBin at hc
  split at hc
  case h_2 => exact absurd hc (by decide)
  rename_i b' t x' y' yt ho
  simp only [Bool.and_eq_true, decide_eq_true_eq] at hc
  obtain ⟨⟨rfl, hx⟩, hy⟩ := hc
  simp only [pv, M.run_bind] at h
  replace h := rd_sound hs hx h
  obtain ⟨v, h, hv⟩ := h
  replace h := rd_sound hs hy h
  obtain ⟨u, h, hu⟩ := h
  unfold bin at h
  split at h
  · replace h := asI_run h
    obtain ⟨k', n, rfl, h⟩ := h
    replace h := binA_run (P := P) (be := be) (ga := ga) (O := O) (w := w) h
    obtain ⟨v, u, hk, hrun, hr⟩ := h
    refine ⟨v, hk, fun c => ⟨u, ?_, hr⟩⟩
    have e1 := hv c
    have e2 := hu c
    simp only [RA, RC] at e1 e2
    simp [execOp, ho, e1, e2, eqGuard_int, hrun]
  · replace h := asS_run h
    obtain ⟨n, rfl, h⟩ := h
    replace h := binS_run (P := P) (be := be) (ga := ga) (O := O) (w := w) h
    obtain ⟨v, u, hk, hrun, hr⟩ := h
    refine ⟨v, hk, fun c => ⟨u, ?_, hr⟩⟩
    have e1 := hv c
    have e2 := hu c
    simp only [RA, RC] at e1 e2
    simp [execOp, ho, e1, e2, eqGuard_str, hrun]
  · exact h.elim
def isBoolT (P : Program) (t : TypeId) : Bool :=
  match P.underlying t with
  | some .bool => true
  | _ => false
def cEqB (P : Program) (op : Op) (neg : Bool) (x y : Opd) : Bool :=
  match op with
  | .binOp b t x' y' _ => (bif neg then decide (b = .neq) else decide (b = .eql)) && isBoolT P t && chkX x' x && chkX y' y
  | _ => false
theorem v_eqB {neg : Bool} {x y : Opd} (hs : Slots be ga O w fr a) (hc : cEqB P o.op neg x y = true) (h : (pv hp ga cnd fr (.eqB neg x y)).run K) : ∃ v, K v ∧ (cnd → Ex P a o w (RA be ga O w) v) := by
  unfold cEqB at hc
  split at hc
  case h_2 => exact absurd hc (by decide)
  rename_i b' t x' y' yt ho
  simp only [Bool.and_eq_true] at hc
  obtain ⟨⟨⟨hb, ht⟩, hx⟩, hy⟩ := hc
  have ht' : P.underlying t = some .bool := by
    unfold isBoolT at ht; split at ht
    · assumption
    · exact absurd ht (by decide)
  simp only [pv, M.run_bind] at h
  replace h := rd_sound hs hx h
  obtain ⟨v, h, hv⟩ := h
  replace h := asB_run h
  obtain ⟨p, rfl, h⟩ := h
  rw [M.run_bind] at h
  replace h := rd_sound hs hy h
  obtain ⟨u, h, hu⟩ := h
  replace h := asB_run h
  obtain ⟨q, rfl, h⟩ := h
  refine ⟨_, h, fun c => ?_⟩
  have e1 := hv c
  have e2 := hu c
  simp only [RA, RC] at e1 e2
  cases neg
  · simp only [cond_false, decide_eq_true_eq] at hb
    subst hb
    refine ⟨.bool (p == q), ?_, rfl⟩
    simp [execOp, ho, e1, e2, eqGuard_bool, binOp, Op.equal, Op.maxDepth, run_equalIn_bool' _ _ _ _ _ ht']
  · simp only [cond_true, decide_eq_true_eq] at hb
    subst hb
    refine ⟨.bool (!(p == q)), ?_, rfl⟩
    simp [execOp, ho, e1, e2, eqGuard_bool, binOp, Op.equal, Op.maxDepth, run_equalIn_bool' _ _ _ _ _ ht']
theorem eqGuard_slice (op : BinOp) (t : TypeId) (x y : Operand) (p : Option Addr) (n c : Nat) (v : Value) : (eqGuard op t x y (.slice p n c) v).run P w = .ok () w := by
  cases op <;> simp [eqGuard]
theorem run_eqS_nil' {P : Program} {w : World} {t e : TypeId} (d : Nat) (p : Option Addr) (n c : Nat) (h : P.underlying t = some (.slice e)) : (Op.equalIn (d + 1) t (.slice p n c) (.slice none 0 0)).run P w = .ok p.isNone w := by
  cases p <;> simp [Op.equalIn, run_underlying h]
theorem run_eqS_nil {P : Program} {w : World} {t e : TypeId} (p : Option Addr) (n c : Nat) (h : P.underlying t = some (.slice e)) : (Op.equalIn 10000 t (.slice p n c) (.slice none 0 0)).run P w = .ok p.isNone w := run_eqS_nil' 9999 p n c h
def cNilS (P : Program) (op : Op) (x : Opd) : Bool :=
  match op with
  | .binOp .eql t x' (.const (.slice none 0 0)) _ => (match P.underlying t with
    | some (.slice _) => true
    | _ => false) && chkX x' x
  | _ => false
theorem v_nilS {x : Opd} (hs : Slots be ga O w fr a) (hc : cNilS P o.op x = true) (h : (pv hp ga cnd fr (.nilS x)).run K) : ∃ v, K v ∧ (cnd → Ex P a o w (RA be ga O w) v) := by
  unfold cNilS at hc
  split at hc
  case h_2 => exact absurd hc (by decide)
  rename_i t x' yt ho
  rw [Bool.and_eq_true] at hc
  obtain ⟨ht, hx⟩ := hc
  have ht' : ∃ e, P.underlying t = some (.slice e) := by
    split at ht
    · rename_i e he; exact ⟨e, he⟩
    · exact absurd ht (by decide)
  obtain ⟨e, ht'⟩ := ht'
  simp only [pv, M.run_bind] at h
  replace h := rd_sound hs hx h
  obtain ⟨v, h, hv⟩ := h
  have run : ∀ (p : Option Addr) (n c : Nat), a.eval x' = .slice p n c → (execOp a.eval o).run P w = .ok (.value (.bool p.isNone)) w := fun p n c e1 => by
    have e2 : a.eval (.const (.slice none 0 0)) = .slice none 0 0 := rfl
    simp [execOp, ho, e1, e2, eqGuard_slice, binOp, Op.equal, Op.maxDepth, run_eqS_nil _ _ _ ht']
  unfold nilS at h
  split at h
  · refine ⟨_, h, fun c => ⟨_, run _ _ _ (hv c), rfl⟩⟩
  · rename_i sz n f
    refine ⟨_, h, fun c => ?_⟩
    rcases hv c with ⟨h0, p, hp'⟩ | ⟨b, o', cap, hp', hn, _⟩
    · exact ⟨_, run _ _ _ hp', _, rfl, fun _ => h0⟩
    · exact ⟨_, run _ _ _ hp', _, rfl, fun hb => by simp at hb⟩
  · rename_i s q sz off len
    refine ⟨_, h, fun c => ?_⟩
    obtain ⟨_, h1⟩ := hv c
    rcases h1 with ⟨_, _, h0, hp'⟩ | ⟨b, o', cap, cs, el, fz, _, hp', _⟩
    · exact ⟨_, run _ _ _ hp', _, rfl, fun _ => h0⟩
    · exact ⟨_, run _ _ _ hp', _, rfl, fun hb => by simp at hb⟩
  · exact h.elim
def cUn (op : Op) (u : UnOp) (x : Opd) : Bool :=
  match op with
  | .unOp u' _ x' => decide (u' = u) && chkX x' x
  | _ => false
theorem v_not {x : Opd} (hs : Slots be ga O w fr a) (hc : cUn o.op .not x = true) (h : (pv hp ga cnd fr (.not x)).run K) : ∃ v, K v ∧ (cnd → Ex P a o w (RA be ga O w) v) := by
  unfold cUn at hc
  split at hc
  case h_2 => exact absurd hc (by decide)
  rename_i u' t x' ho
  simp only [Bool.and_eq_true, decide_eq_true_eq] at hc
  obtain ⟨rfl, hx⟩ := hc
  simp only [pv, M.run_bind] at h
  replace h := rd_sound hs hx h
  obtain ⟨v, h, hv⟩ := h
  replace h := asB_run h
  obtain ⟨p, rfl, h⟩ := h
  refine ⟨_, h, fun c => ?_⟩
  have e1 := hv c
  simp only [RA, RC] at e1
  exact ⟨_, by simp [execOp, ho, e1, Op.unary], rfl⟩
theorem v_com {x : Opd} (hs : Slots be ga O w fr a) (hc : cUn o.op .xor x = true) (h : (pv hp ga cnd fr (.com x)).run K) : ∃ v, K v ∧ (cnd → Ex P a o w (RA be ga O w) v) := by
  unfold cUn at hc
  split at hc
  case h_2 => exact absurd hc (by decide)
  rename_i u' t x' ho
  simp only [Bool.and_eq_true, decide_eq_true_eq] at hc
  obtain ⟨rfl, hx⟩ := hc
  simp only [pv, M.run_bind] at h
  replace h := rd_sound hs hx h
  obtain ⟨v, h, hv⟩ := h
  replace h := asI_run h
  obtain ⟨k, n, rfl, h⟩ := h
  refine ⟨_, h, fun c => ?_⟩
  have e1 := hv c
  simp only [RA, RC] at e1
  refine ⟨_, by simp [execOp, ho, e1, Op.unary, Op.intBits]; rfl, ?_⟩
  simp [RA, RC, comI_eq, bitI0]
  cases k.signed <;> simp
def kindT (P : Program) (t : TypeId) (k : IntKind) : Bool :=
  match P.underlying t with
  | some (.int k') => isK k' k
  | _ => false
theorem kindT_eq {t : TypeId} {k : IntKind} (h : kindT P t k = true) : P.underlying t = some (.int k) := by
  unfold kindT at h; split at h
  · rename_i h'; rw [h', isK_eq h]
  · exact absurd h (by decide)
def cConv (P : Program) (op : Op) (k : IntKind) (x : Opd) : Bool :=
  match op with
  | .convert s d x' => kindT P d k && (P.underlying s).isSome && chkX x' x
  | _ => false
theorem v_conv {chk : Bool} {k : IntKind} {x : Opd} (hs : Slots be ga O w fr a) (hc : cConv P o.op k x = true) (h : (pv hp ga cnd fr (.conv chk k x)).run K) : ∃ v, K v ∧ (cnd → Ex P a o w (RA be ga O w) v) := by
  unfold cConv at hc
  split at hc
  case h_2 => exact absurd hc (by decide)
  rename_i s d x' ho
  simp only [Bool.and_eq_true] at hc
  obtain ⟨⟨hk, hs'⟩, hx⟩ := hc
  obtain ⟨ds, hds⟩ := Option.isSome_iff_exists.1 hs'
  have hd := kindT_eq hk
  simp only [pv, M.run_bind] at h
  replace h := rd_sound hs hx h
  obtain ⟨v, h, hv⟩ := h
  replace h := asI_run h
  obtain ⟨k0, n, rfl, h⟩ := h
  have run : cnd → (execOp a.eval o).run P w = .ok (.value (.int k (wrapI k n))) w := fun c => by
    have e1 := hv c
    simp only [RA, RC] at e1
    simp [execOp, ho, e1, convert, run_underlying hds, run_underlying hd, Conv.intToInt, wrapI_eq]
  cases chk
  · exact ⟨_, h, fun c => ⟨_, run c, rfl⟩⟩
  · exact ⟨_, h.r, fun c => ⟨_, run c, by rw [wrapI_eq, wrap_rng h.l]; rfl⟩⟩
/-! strings -/

def isStrT (P : Program) (t : TypeId) : Bool :=
  match P.underlying t with
  | some .string => true
  | _ => false
theorem isStrT_eq {t : TypeId} (h : isStrT P t = true) : P.underlying t = some .string := by
  unfold isStrT at h; split at h
  · assumption
  · exact absurd h (by decide)
def cSlT (P : Program) (op : Op) (x : Opd) (lo hi : Option Opd) : Bool :=
  match op with
  | .slice t x' lo' hi' none => isStrT P t && chkX x' x && chkO lo' lo && chkO hi' hi
  | _ => false
def OB (a : Act) (x : Option Operand) (n : Option Int) : Prop :=
  match n with
  | none => x.map a.eval = none
  | some n => ∃ k, x.map a.eval = some (.int k n)
theorem optI_run {α : Type} {L : α → Prop} (hs : Slots be ga O w fr a) {x : Option Operand} {y : Option Opd} (hc : chkO x y = true) {f : Option Int → M α} (h : (optI cnd fr y f).run L) :
    ∃ n, (cnd → OB a x n) ∧ (f n).run L := by
  unfold optI at h
  cases y with
  | none =>
    refine ⟨none, fun _ => ?_, h⟩
    cases x with
    | none => rfl
    | some x => exact absurd hc (by simp [chkO])
  | some y =>
    cases x with
    | none => exact absurd hc (by simp [chkO])
    | some x =>
      simp only [M.run_bind] at h
      replace h := rd_sound hs (x := x) hc h
      obtain ⟨v, h, hv⟩ := h
      replace h := asI_run h
      obtain ⟨k, n, rfl, h⟩ := h
      exact ⟨some n, fun c => ⟨k, congrArg some (hv c)⟩, h⟩
theorem bytes_extract (l : List UInt8) (x y : Nat) : (⟨⟨l⟩⟩ : ByteArray).extract x y = ⟨⟨(l.take y).drop x⟩⟩ := by
  have := ByteArray.extract_mk l x y
  rw [show (⟨⟨l⟩⟩ : ByteArray) = ByteArray.mk l.toArray from rfl, this, List.drop_take]
theorem bytes_size (l : List UInt8) : (⟨⟨l⟩⟩ : ByteArray).size = l.length := rfl
theorem v_slT {x : Opd} {lo hi : Option Opd} (hs : Slots be ga O w fr a) (hc : cSlT P o.op x lo hi = true) (h : (pv hp ga cnd fr (.slT x lo hi)).run K) : ∃ v, K v ∧ (cnd → Ex P a o w (RA be ga O w) v) := by
  unfold cSlT at hc
  split at hc
  case h_2 => exact absurd hc (by decide)
  rename_i t x' lo' hi' ho
  simp only [Bool.and_eq_true] at hc
  obtain ⟨⟨⟨ht, hx⟩, hlo⟩, hhi⟩ := hc
  have ht' := isStrT_eq ht
  simp only [pv, M.run_bind] at h
  replace h := rd_sound hs hx h
  obtain ⟨v, h, hv⟩ := h
  replace h := asS_run h
  obtain ⟨l, rfl, h⟩ := h
  replace h := optI_run hs hlo h
  obtain ⟨n1, h1, h⟩ := h
  replace h := optI_run hs hhi h
  obtain ⟨n2, h2, h⟩ := h
  have e1 : cnd → a.eval x' = .string ⟨⟨l⟩⟩ := fun c => hv c
  have sl : ∀ lo hi mx, (Instr.sliceAt t (.string ⟨⟨l⟩⟩) lo hi mx).run P w = (Instr.slice t (.string ⟨⟨l⟩⟩) lo hi mx).run P w := fun lo hi mx => run_sliceAt_string w t _ lo hi mx ht'
  unfold slT at h
  split at h
  · refine ⟨_, h, fun c => ⟨_, ?_, rfl⟩⟩
    have e2 := h1 c
    have e3 := h2 c
    simp only [OB] at e2 e3
    simp only [execOp, ho, e1 c, e2, e3, Sem.run_bind, sl, Option.map_none]
    rw [run_slice_string_all _ _ _ ht', bytes_extract, bytes_size]
    simp
  · rename_i hh
    refine ⟨_, h.r, fun c => ⟨_, ?_, rfl⟩⟩
    have hl := h.l
    have e2 := h1 c
    obtain ⟨k, e3⟩ := h2 c
    simp only [OB] at e2
    simp only [execOp, ho, e1 c, e2, e3, Sem.run_bind, sl, Option.map_none]
    rw [run_slice_string_h w t ⟨⟨l⟩⟩ ht' k _ hl.1 hl.2, bytes_extract]
    simp
  · rename_i aa
    refine ⟨_, h.r, fun c => ⟨_, ?_, rfl⟩⟩
    have hl := h.l
    obtain ⟨k, e2⟩ := h1 c
    have e3 := h2 c
    simp only [OB] at e3
    simp only [execOp, ho, e1 c, e2, e3, Sem.run_bind, sl, Option.map_none]
    rw [run_slice_string_l w t ⟨⟨l⟩⟩ ht' k _ hl.1 hl.2, bytes_extract, bytes_size]
    simp
  · rename_i aa hh
    refine ⟨_, h.r, fun c => ⟨_, ?_, rfl⟩⟩
    obtain ⟨l1, l2, l3⟩ := h.l
    obtain ⟨k, e2⟩ := h1 c
    obtain ⟨k', e3⟩ := h2 c
    have t1 : 0 ≤ hh := by omega
    have t3 : hh ≤ ((⟨⟨l⟩⟩ : ByteArray).size : Int) := l3
    have t2 : aa ≤ (hh.toNat : Int) := by omega
    simp only [execOp, ho, e1 c, e2, e3, Sem.run_bind, sl, Option.map_none]
    simp [Instr.slice, run_underlying ht', Instr.sliceBounds, run_sliceBound _ _ _ _ _ t1 t3, run_sliceBound _ _ _ _ _ l1 t2, bytes_extract]
def cIdx (P : Program) (op : Op) (x i : Opd) : Bool :=
  match op with
  | .index t x' i' => isStrT P t && chkX x' x && chkX i' i
  | _ => false
theorem v_idx {x i : Opd} (hs : Slots be ga O w fr a) (hc : cIdx P o.op x i = true) (h : (pv hp ga cnd fr (.idx x i)).run K) : ∃ v, K v ∧ (cnd → Ex P a o w (RA be ga O w) v) := by
  unfold cIdx at hc
  split at hc
  case h_2 => exact absurd hc (by decide)
  rename_i t x' i' ho
  simp only [Bool.and_eq_true] at hc
  obtain ⟨⟨ht, hx⟩, hi⟩ := hc
  have ht' := isStrT_eq ht
  simp only [pv, M.run_bind] at h
  replace h := rd_sound hs hx h
  obtain ⟨v, h, hv⟩ := h
  replace h := asS_run h
  obtain ⟨l, rfl, h⟩ := h
  rw [M.run_bind] at h
  replace h := rd_sound hs hi h
  obtain ⟨u, h, hu⟩ := h
  replace h := asI_run h
  obtain ⟨k, n, rfl, h⟩ := h
  refine ⟨_, h.r, fun c => ⟨_, ?_, rfl⟩⟩
  have e1 := hv c
  have e2 := hu c
  simp only [RA, RC] at e1 e2
  obtain ⟨h0, h1⟩ := h.l
  have hn : n.toNat < l.length := by omega
  have hg : (⟨⟨l⟩⟩ : ByteArray)[n.toNat]? = some (l.getD n.toNat 0) := by
    rw [ByteArray.getElem?_lt' _ _ hn, List.getD_eq_getElem?_getD, List.getElem?_eq_getElem hn]; rfl
  simp [execOp, ho, e1, e2, Instr.index, asIntOf, run_underlying ht', h0, hg]
/-! slices -/

def cSlS (P : Program) (op : Op) (size : Nat) (x : Opd) (lo hi : Option Opd) : Bool :=
  match op with
  | .slice t x' lo' hi' none => slT' P t size && chkX x' x && chkO lo' lo && chkO hi' hi
  | _ => false
theorem run_slS {t e : TypeId} {i : TypeInfo} (hu : P.underlying t = some (.slice e)) (hi : P.info? e = some i) {lo hi' : Option Value} {p : Option Addr} {len cap : Nat} {l h : Nat}
    (hb : (Instr.sliceBounds true len cap lo hi' none).run P w = .ok (l, h, cap) w) :
    (Instr.sliceAt t (.slice p len cap) lo hi' none).run P w = .ok (.slice (if cap = l then p else p.map (·.add (l * i.size))) (h - l) (cap - l)) w := by
  simp only [Instr.sliceAt, Instr.slice, Sem.run_bind, run_underlying hu, Result.andThen_ok, hb, run_sizeOf hi, Sem.run_pure]
theorem run_bounds {n1 n2 : Option Int} {x y : Option Operand} (h1 : OB a x n1) (h2 : OB a y n2) {len cap : Nat} (hlc : len ≤ cap) (hb : 0 ≤ n1.getD 0 ∧ n1.getD 0 ≤ n2.getD len ∧ n2.getD len ≤ len) :
    (Instr.sliceBounds true len cap (x.map a.eval) (y.map a.eval) none).run P w = .ok ((n1.getD 0).toNat, (n2.getD len).toNat, cap) w := by
  unfold Instr.sliceBounds
  cases n2 with
  | none =>
    rw [show y.map a.eval = none from h2]
    simp only [Option.getD_none] at hb ⊢
    cases n1 with
    | none => rw [show x.map a.eval = none from h1]; simp
    | some m =>
      obtain ⟨k, hk⟩ := h1
      rw [hk]
      simp only [Option.getD_some] at hb ⊢
      simp [run_sliceBound _ k m _ _ hb.1 hb.2.1]
  | some m2 =>
    obtain ⟨k2, hk2⟩ := h2
    rw [hk2]
    simp only [Option.getD_some] at hb ⊢
    have t0 : 0 ≤ m2 := by omega
    have t1 : m2 ≤ (cap : Int) := by omega
    cases n1 with
    | none => rw [show x.map a.eval = none from h1]; simp [run_sliceBound _ k2 m2 _ _ t0 t1]
    | some m =>
      obtain ⟨k, hk⟩ := h1
      rw [hk]
      simp only [Option.getD_some] at hb ⊢
      have t2 : m ≤ (m2.toNat : Int) := by omega
      simp [run_sliceBound _ k2 m2 _ _ t0 t1, run_sliceBound _ k m _ _ hb.1 t2]
theorem RC_slice {size n : Nat} {f : Nat → Nat → Cell} {p : Option Addr} {len cap l h : Nat} (hr : RC O w (.sl size n f) (.slice p len cap)) (hl : l ≤ h) (hh : h ≤ n) :
    RC O w (.sl size (h - l) fun i => f (l + i)) (.slice (if cap = l then p else p.map (·.add (l * size))) (h - l) (cap - l)) := by
  rcases hr with ⟨hn, p', hv⟩ | ⟨b, off, cap', hv, hc1, hc2, hcells⟩
  · simp only [Value.slice.injEq] at hv
    obtain ⟨rfl, rfl, rfl⟩ := hv
    refine Or.inl ⟨by omega, ?_⟩
    have : l = 0 := by omega
    have : h = 0 := by omega
    subst_vars
    exact ⟨_, rfl⟩
  · simp only [Value.slice.injEq] at hv
    obtain ⟨rfl, rfl, rfl⟩ := hv
    by_cases hcl : cap = l
    · refine Or.inr ⟨b, off, cap - l, by rw [if_pos hcl], by omega, by omega, fun i hi => by omega⟩
    · refine Or.inr ⟨b, off + l * size, cap - l, by rw [if_neg hcl]; simp [addr_add], by omega, by omega, fun i hi j hj => ?_⟩
      have := hcells (l + i) (by omega) j hj
      rw [Nat.add_mul] at this
      rw [show off + l * size + i * size + j = off + (l * size + i * size) + j by omega]
      exact this
theorem RA_slice {s q size off n : Nat} {p : Option Addr} {len cap l h : Nat} (hr : RA be ga O w (.os s q size off n) (.slice p len cap)) (hl : l ≤ h) (hh : h ≤ n) :
    RA be ga O w (.os s q size (off + l) (h - l)) (.slice (if cap = l then p else p.map (·.add (l * size))) (h - l) (cap - l)) := by
  obtain ⟨hq, hr⟩ := hr
  refine ⟨hq, ?_⟩
  rcases hr with ⟨hb, ho, hn, hv⟩ | ⟨b, oo, cap', cs, el, fz, hb, hv, hc1, hc2, hc3, hh', hc4⟩
  · simp only [Value.slice.injEq] at hv
    obtain ⟨rfl, rfl, rfl⟩ := hv
    have : l = 0 := by omega
    have : h = 0 := by omega
    subst_vars
    exact Or.inl ⟨hb, rfl, rfl, rfl⟩
  · simp only [Value.slice.injEq] at hv
    obtain ⟨rfl, rfl, rfl⟩ := hv
    by_cases hcl : cap = l
    · exact Or.inr ⟨b, oo, cap - l, cs, el, fz, hb, by rw [if_pos hcl], by omega, by omega, fun h0 => by omega, hh', by rw [hcl, Nat.sub_self, Nat.zero_mul]; omega⟩
    · refine Or.inr ⟨b, oo + l * size, cap - l, cs, el, fz, hb, by rw [if_neg hcl]; simp [addr_add], by omega, by omega, fun _ => by rw [hc3 (by omega), Nat.add_mul], hh', ?_⟩
      have : cap * size = l * size + (cap - l) * size := by rw [← Nat.add_mul]; congr 1; omega
      omega
theorem RC_sl_val {size n : Nat} {f : Nat → Nat → Cell} {u : Value} (h : RC O w (.sl size n f) u) : ∃ p cap, u = .slice p n cap ∧ n ≤ cap := by
  rcases h with ⟨rfl, p, rfl⟩ | ⟨b, off, cap, rfl, h, _⟩
  · exact ⟨_, _, rfl, Nat.le_refl _⟩
  · exact ⟨_, _, rfl, h⟩
theorem RA_os_val {s q size off n : Nat} {u : Value} (h : RA be ga O w (.os s q size off n) u) : ∃ p cap, u = .slice p n cap ∧ n ≤ cap := by
  rcases h.2 with ⟨_, _, rfl, rfl⟩ | ⟨b, off, cap, cs, el, fz, _, rfl, h, _⟩
  · exact ⟨_, _, rfl, Nat.le_refl _⟩
  · exact ⟨_, _, rfl, h⟩
theorem v_slS {size : Nat} {x : Opd} {lo hi : Option Opd} (hs : Slots be ga O w fr a) (hc : cSlS P o.op size x lo hi = true) (h : (pv hp ga cnd fr (.slS size x lo hi)).run K) : ∃ v, K v ∧ (cnd → Ex P a o w (RA be ga O w) v) := by
  unfold cSlS at hc
  split at hc
  case h_2 => exact absurd hc (by decide)
  rename_i t x' lo' hi' ho
  simp only [Bool.and_eq_true] at hc
  obtain ⟨⟨⟨ht, hx⟩, hlo⟩, hhi⟩ := hc
  obtain ⟨e, inf, hu, hinf, hsz⟩ := slT'_eq ht
  simp only [pv, M.run_bind] at h
  replace h := rd_sound hs hx h
  obtain ⟨v, h, hv⟩ := h
  replace h := optI_run hs hlo h
  obtain ⟨n1, h1, h⟩ := h
  replace h := optI_run hs hhi h
  obtain ⟨n2, h2, h⟩ := h
  have run : ∀ p len cap, cnd → a.eval x' = .slice p len cap → len ≤ cap → (0 ≤ n1.getD 0 ∧ n1.getD 0 ≤ n2.getD len ∧ n2.getD len ≤ len) →
      (execOp a.eval o).run P w = .ok (.value (.slice (if cap = (n1.getD 0).toNat then p else p.map (·.add ((n1.getD 0).toNat * size))) ((n2.getD len).toNat - (n1.getD 0).toNat) (cap - (n1.getD 0).toNat))) w := by
    intro p len cap c e1 hlc hb
    subst hsz
    simp only [execOp, ho, e1, Option.map_none, Sem.run_bind, run_slS hu hinf (run_bounds (P := P) (w := w) (h1 c) (h2 c) hlc hb), Result.andThen_ok, Sem.run_pure]
  rw [slS_eq] at h
  unfold slS0 at h
  split at h
  · rename_i sz n f
    rw [M.run_iff'] at h
    obtain ⟨z, h⟩ := h
    obtain rfl := beqN z
    have fin : ∀ v', K v' → (v' = .c (.sl sz ((n2.getD n).toNat - (n1.getD 0).toNat) fun i => f ((n1.getD 0).toNat + i))) → (0 ≤ n1.getD 0 ∧ n1.getD 0 ≤ n2.getD n ∧ n2.getD n ≤ n) → ∃ v, K v ∧ (cnd → Ex P a o w (RA be ga O w) v) := by
      intro v' hk hv' hb
      refine ⟨v', hk, fun c => ?_⟩
      have hr := hv c
      obtain ⟨p, cap, e1, hlc⟩ := RC_sl_val hr
      refine ⟨_, run p n cap c e1 hlc hb, ?_⟩
      rw [hv']
      rw [e1] at hr
      exact RC_slice hr (by omega) (by omega)
    split at h
    · exact fin _ h (by simp) (by simp)
    · exact fin _ h.r (by simp) (by simpa using h.l)
    · exact fin _ h.r (by simp) (by simpa using h.l)
    · exact fin _ h.r (by simp) (by simpa using h.l)
  · rename_i s q sz off n
    rw [M.run_iff'] at h
    obtain ⟨z, h⟩ := h
    obtain rfl := beqN z
    have fin : ∀ v', K v' → (v' = .os s q sz (off + (n1.getD 0).toNat) ((n2.getD n).toNat - (n1.getD 0).toNat)) → (0 ≤ n1.getD 0 ∧ n1.getD 0 ≤ n2.getD n ∧ n2.getD n ≤ n) → ∃ v, K v ∧ (cnd → Ex P a o w (RA be ga O w) v) := by
      intro v' hk hv' hb
      refine ⟨v', hk, fun c => ?_⟩
      have hr := hv c
      obtain ⟨p, cap, e1, hlc⟩ := RA_os_val hr
      refine ⟨_, run p n cap c e1 hlc hb, ?_⟩
      rw [hv']
      rw [e1] at hr
      exact RA_slice hr (by omega) (by omega)
    split at h
    · exact fin _ h (by simp) (by simp)
    · exact fin _ h.r (by simp) (by simpa using h.l)
    · exact fin _ h.r (by simp) (by simpa using h.l)
    · exact fin _ h.r (by simp) (by simpa using h.l)
  · rename_i z
    have fin : ∀ v', K v' → v' = .nil z → (n1.getD 0 = 0 ∧ n2.getD 0 = 0) → ∃ v, K v ∧ (cnd → Ex P a o w (RA be ga O w) v) := by
      intro v' hk hv' hb
      refine ⟨v', hk, fun c => ?_⟩
      have e1 : a.eval x' = .slice none 0 0 := hv c
      have r := run none 0 0 c e1 (Nat.le_refl _) (by simp [hb.1, hb.2])
      refine ⟨_, r, ?_⟩
      rw [hv']
      simp [RA, hb.1, hb.2]
    split at h
    · exact fin _ h rfl (by simp)
    · exact fin _ h.r rfl (by simpa using h.l)
    · exact fin _ h.r rfl (by simpa using h.l)
    · exact fin _ h.r rfl (by simpa using h.l)
  · exact h.elim
end
end Lk
namespace Lk
open Go Go.RowKit
section
variable {P : Program} {be : Nm} {ga : Nat → Nat} {O : Nat → Prop} {w : World} {fr : Nat → AV} {hp : Nat → Option Ent} {a : Act} {o : Oper} {cnd : Prop} {K : AV → Prop} {B : Nat}
/-! equality of structs -/

def leavesF (F : TypeId → Option (List Nat)) (P : Program) : List Field → Nat → Option (List Nat)
  | [], _ => some []
  | f :: r, off => bif (f.name == "_") || !(Nat.beq f.offset off) then none else
    match F f.type with
    | none => none
    | some l => match P.info? f.type with
      | none => none
      | some i => bif Nat.beq i.size l.length && Nat.ble 1 l.length then (match leavesF F P r (off + l.length) with
        | none => none
        | some m => some (l ++ m)) else none
def leaves (P : Program) : Nat → TypeId → Option (List Nat)
  | 0, _ => none
  | d + 1, t => match P.underlying t with
    | some (.int _) => some [0]
    | some .bool => some [1]
    | some .string => some [2]
    | some (.struct fs) => bif P.stoodInHeld t then none else leavesF (leaves P d) P fs.toList 0
    | _ => none
def lfEq (t : Nat) (x y : Value) (e : Bool) : Prop :=
  match t with
  | 0 => ∃ k m n, x = .int k m ∧ y = .int k n ∧ e = decide (m = n)
  | 1 => ∃ m n, x = .bool m ∧ y = .bool n ∧ e = (m == n)
  | 2 => ∃ m n : List UInt8, x = .string ⟨⟨m⟩⟩ ∧ y = .string ⟨⟨n⟩⟩ ∧ e = decide (m = n)
  | _ => False
def vOf (P : Program) (t : TypeId) (xs : Array Value) : Value := if isAggT P t = true then .agg xs else xs.getD 0 Go.undef
def Lvs (l : List Nat) (xs ys : Array Value) (E : Nat → Bool) : Prop :=
  ∀ (j t : Nat), l[j]? = some t → ∃ x y, xs[j]? = some x ∧ ys[j]? = some y ∧ lfEq t x y (E j)
theorem run_part {t : TypeId} {i : TypeInfo} (hi : P.info? t = some i) (hd : ∃ d, P.underlying t = some d) {xs : Array Value} {off : Nat} (hl : off + i.size ≤ xs.size) (hz : 0 < i.size) :
    (part t xs off).run P w = .ok (vOf P t (xs.extract off (off + i.size))) w := by
  obtain ⟨d, hd⟩ := hd
  unfold part vOf
  by_cases ha : isAggT P t = true
  · simp [run_isAgg_true ha, ha, run_sizeOf hi]
  · have h1 : isOneT P t = true := by
      unfold isAggT at ha
      unfold isOneT
      rw [hd] at ha ⊢
      cases d <;> simp_all
    have hx : xs[off]? = some (xs[off]'(by omega)) := Array.getElem?_eq_getElem (by omega)
    have hx2 : (xs.extract off (off + i.size)).getD 0 Go.undef = xs[off]'(by omega) := by
      rw [Array.getD_eq_getD_getElem?, Array.getElem?_extract, if_pos (by omega), Nat.add_zero, hx, Option.getD_some]
    simp [run_isAgg_false h1, ha, hx]
    rw [← hx2, Array.getD_eq_getD_getElem?]
theorem leaves_sound : ∀ (d : Nat) (t : TypeId) (l : List Nat), leaves P d t = some l → (∃ dd, P.underlying t = some dd) ∧ ∀ (D : Nat), d ≤ D → ∀ (xs ys : Array Value) (E : Nat → Bool), xs.size = l.length → ys.size = l.length →
    Lvs l xs ys E → (Op.equalIn D t (vOf P t xs) (vOf P t ys)).run P w = .ok ((List.range l.length).all E) w := by
  intro d
  induction d with
  | zero => intro t l h; exact absurd h (by simp [leaves])
  | succ d ih =>
    intro t l h
    unfold leaves at h
    split at h
    · rename_i k hu
      obtain rfl := Option.some.inj h
      refine ⟨⟨_, hu⟩, fun D hD xs ys E hx hy hl => ?_⟩
      obtain ⟨D, rfl⟩ : ∃ D', D = D' + 1 := ⟨D - 1, by omega⟩
      obtain ⟨x, y, hx', hy', k', m, n, rfl, rfl, he⟩ := hl 0 0 rfl
      have ha : ¬ isAggT P t = true := by simp [isAggT, hu]
      simp only [vOf, ha, if_false, Array.getD_eq_getD_getElem?, hx', hy', Option.getD_some, Bool.false_eq_true]
      rw [run_equalIn_int _ _ _ _ _ _ _ hu]
      simp [he]; rfl
    · rename_i hu
      obtain rfl := Option.some.inj h
      refine ⟨⟨_, hu⟩, fun D hD xs ys E hx hy hl => ?_⟩
      obtain ⟨D, rfl⟩ : ∃ D', D = D' + 1 := ⟨D - 1, by omega⟩
      obtain ⟨x, y, hx', hy', m, n, rfl, rfl, he⟩ := hl 0 1 rfl
      have ha : ¬ isAggT P t = true := by simp [isAggT, hu]
      simp only [vOf, ha, if_false, Array.getD_eq_getD_getElem?, hx', hy', Option.getD_some, Bool.false_eq_true]
      rw [run_equalIn_bool' _ _ _ _ _ hu]
      simp [he]
    · rename_i hu
      obtain rfl := Option.some.inj h
      refine ⟨⟨_, hu⟩, fun D hD xs ys E hx hy hl => ?_⟩
      obtain ⟨D, rfl⟩ : ∃ D', D = D' + 1 := ⟨D - 1, by omega⟩
      obtain ⟨x, y, hx', hy', m, n, rfl, rfl, he⟩ := hl 0 2 rfl
      have ha : ¬ isAggT P t = true := by simp [isAggT, hu]
      simp only [vOf, ha, if_false, Array.getD_eq_getD_getElem?, hx', hy', Option.getD_some, Bool.false_eq_true]
      rw [run_equalIn_string _ _ _ _ _ hu]
      simp [he, string_toList, list_beq]
    · rename_i fs hu
      refine ⟨⟨_, hu⟩, fun D hD xs ys E hx hy hl => ?_⟩
      obtain ⟨D, rfl⟩ : ∃ D', D = D' + 1 := ⟨D - 1, by omega⟩
      cases hh : P.stoodInHeld t with
      | true => rw [hh] at h; exact absurd h (by simp)
      | false =>
        rw [hh] at h
        simp only [cond_false] at h
        have ha : isAggT P t = true := by simp [isAggT, hu]
        have hf : P.fieldsOf t = fs := by simp [Program.fieldsOf, hu]
        simp only [vOf, ha, if_true]
        rw [run_equalIn_struct w D t xs ys (by rw [hf]; exact hu) hh, hf]
        -- field by field
        have main : ∀ (gs : List Field) (off : Nat) (m : List Nat), leavesF (leaves P d) P gs off = some m → off + m.length ≤ xs.size → off + m.length ≤ ys.size →
            (∀ (j t : Nat), m[j]? = some t → ∃ x y, xs[off + j]? = some x ∧ ys[off + j]? = some y ∧ lfEq t x y (E (off + j))) →
            (Op.eqFields D xs ys gs).run P w = .ok ((List.range m.length).all fun j => E (off + j)) w := by
          intro gs
          induction gs with
          | nil =>
            intro off m h _ _ _
            obtain rfl := Option.some.inj h
            simp [Op.eqFields]
          | cons f gs ihg =>
            intro off m h h1 h2 hm
            unfold leavesF at h
            cases hn : (f.name == "_") || !(Nat.beq f.offset off) with
            | true => rw [hn] at h; exact absurd h (by simp)
            | false =>
              rw [hn] at h
              simp only [cond_false] at h
              simp only [Bool.or_eq_false_iff, Bool.not_eq_false'] at hn
              obtain ⟨hnm, hoff⟩ := hn
              have hoff := beqN hoff
              split at h
              · exact absurd h (by simp)
              rename_i l1 hl1
              split at h
              · exact absurd h (by simp)
              rename_i i hi
              cases hsz : Nat.beq i.size l1.length && Nat.ble 1 l1.length with
              | false => rw [hsz] at h; exact absurd h (by simp)
              | true =>
                rw [hsz] at h
                simp only [cond_true] at h
                simp only [Bool.and_eq_true] at hsz
                have hpos : 0 < l1.length := Nat.le_of_ble_eq_true hsz.2
                have hsz := beqN hsz.1
                split at h
                · exact absurd h (by simp)
                rename_i m1 hm1
                obtain rfl := Option.some.inj h
                simp only [List.length_append] at h1 h2
                have hne : f.name ≠ "_" := by simpa using hnm
                obtain ⟨hdd, ihd⟩ := ih f.type l1 hl1
                unfold Op.eqFields
                simp only [hne, ne_eq, not_false_eq_true, if_true, Sem.run_bind]
                rw [hoff, run_part hi hdd (by omega) (by omega)]
                simp only [Result.andThen_ok]
                rw [run_part hi hdd (by omega) (by omega)]
                simp only [Result.andThen_ok]
                rw [ihd D (by omega) (xs.extract off (off + i.size)) (ys.extract off (off + i.size)) (fun j => E (off + j)) (by simp; omega) (by simp; omega)
                  (fun j t ht => by
                    have hj : j < l1.length := (List.getElem?_eq_some_iff.1 ht).1
                    obtain ⟨x, y, hx, hy, he⟩ := hm j t (by rw [List.getElem?_append_left hj]; exact ht)
                    refine ⟨x, y, ?_, ?_, he⟩
                    · rw [Array.getElem?_extract, if_pos (by omega), hx]
                    · rw [Array.getElem?_extract, if_pos (by omega), hy])]
                simp only [Result.andThen_ok]
                have rest := ihg (off + l1.length) m1 hm1 (by omega) (by omega) (fun j t ht => by
                  have := hm (l1.length + j) t (by rw [List.getElem?_append_right (by omega)]; simpa using ht)
                  simpa [Nat.add_assoc] using this)
                rw [List.length_append, List.range_add, List.all_append]
                cases hall : (List.range l1.length).all fun j => E (off + j) with
                | false => simp
                | true =>
                  simp [rest, List.all_map, Function.comp_def, Nat.add_assoc]
        have := main fs.toList 0 l h (by omega) (by omega) (fun j t ht => by simpa using hl j t ht)
        simpa using this
    · exact absurd h (by simp)
theorem eqC_run {t : Nat} {x y : AV} {L : Bool → Prop} (h : (eqC t x y).run L) : ∃ e, L e ∧ ∀ u v, RA be ga O w x u → RA be ga O w y v → lfEq t u v e := by
  unfold eqC at h
  split at h
  · replace h := asI_run h
    obtain ⟨k, m, rfl, h⟩ := h
    replace h := asI_run h
    obtain ⟨k', n, rfl, h⟩ := h
    rw [M.run_iff'] at h
    obtain ⟨hk, h⟩ := h
    refine ⟨_, h, fun u v hu hv => ⟨k, m, n, hu, ?_, rfl⟩⟩
    rw [isK_eq hk]; exact hv
  · replace h := asB_run h
    obtain ⟨m, rfl, h⟩ := h
    replace h := asB_run h
    obtain ⟨n, rfl, h⟩ := h
    exact ⟨_, h, fun u v hu hv => ⟨m, n, hu, hv, rfl⟩⟩
  · replace h := asS_run h
    obtain ⟨m, rfl, h⟩ := h
    replace h := asS_run h
    obtain ⟨n, rfl, h⟩ := h
    exact ⟨_, h, fun u v hu hv => ⟨m, n, hu, hv, rfl⟩⟩
  · exact h.elim
theorem eqCells_run : ∀ (l : List Nat) (j : Nat) (f g : Nat → AV) (L : Bool → Prop), (eqCells l j f g).run L →
    ∃ E : Nat → Bool, L ((List.range l.length).all E) ∧ ∀ (i t : Nat), l[i]? = some t → ∀ u v, RA be ga O w (f (j + i)) u → RA be ga O w (g (j + i)) v → lfEq t u v (E i)
  | [], j, f, g, L, h => ⟨fun _ => true, h, fun i t ht => absurd ht (by simp)⟩
  | t :: r, j, f, g, L, h => by
    simp only [eqCells, M.run_bind] at h
    replace h := eqC_run (be := be) (ga := ga) (O := O) (w := w) h
    obtain ⟨e, h, he⟩ := h
    have rest : ∃ E : Nat → Bool, L (e && (List.range r.length).all E) ∧ ∀ (i t : Nat), r[i]? = some t → ∀ u v, RA be ga O w (f (j + 1 + i)) u → RA be ga O w (g (j + 1 + i)) v → lfEq t u v (E i) := by
      cases r with
      | nil => exact ⟨fun _ => true, by have h' : L e := h; simpa using h', fun i t ht => absurd ht (by simp)⟩
      | cons t' r' =>
        simp only [M.run_bind] at h
        obtain ⟨E, h, hE⟩ := eqCells_run (t' :: r') (j + 1) f g _ h
        exact ⟨E, h, hE⟩
    obtain ⟨E, h, hE⟩ := rest
    refine ⟨fun i => match i with | 0 => e | i + 1 => E i, ?_, fun i t' ht => ?_⟩
    · rw [List.length_cons, List.range_succ_eq_map, List.all_cons, List.all_map]
      exact h
    · cases i with
      | zero =>
        obtain rfl : t = t' := by simpa using ht
        exact he
      | succ i =>
        have := hE i t' (by simpa using ht)
        rw [show j + (i + 1) = j + 1 + i by omega]
        exact this
def cEqA (P : Program) (op : Op) (neg : Bool) (ts : List Nat) (x y : Opd) : Bool :=
  match op with
  | .binOp b t x' y' _ => (bif neg then decide (b = .neq) else decide (b = .eql)) && isAggT P t && !(P.eqGuardType P.depth t) && decide (leaves P 8 t = some ts) && chkX x' x && chkX y' y
  | _ => false
theorem v_eqA {neg : Bool} {ts : List Nat} {x y : Opd} (hs : Slots be ga O w fr a) (hc : cEqA P o.op neg ts x y = true) (h : (pv hp ga cnd fr (.eqA neg ts x y)).run K) : ∃ v, K v ∧ (cnd → Ex P a o w (RA be ga O w) v) := by
  unfold cEqA at hc
  split at hc
  case h_2 => exact absurd hc (by decide)
  rename_i b' t x' y' yt ho
  simp only [Bool.and_eq_true, decide_eq_true_eq, Bool.not_eq_true'] at hc
  obtain ⟨⟨⟨⟨⟨hb, ha⟩, hg⟩, hl⟩, hx⟩, hy⟩ := hc
  simp only [pv, M.run_bind] at h
  replace h := rd_sound hs hx h
  obtain ⟨v, h, hv⟩ := h
  replace h := rd_sound hs hy h
  obtain ⟨u, h, hu⟩ := h
  unfold eqA at h
  split at h
  case h_2 => exact h.elim
  rename_i m f
  split at h
  case h_2 => exact h.elim
  rename_i m' g
  rw [M.run_iff', M.run_bind] at h
  obtain ⟨hm, h⟩ := h
  simp only [Bool.and_eq_true] at hm
  obtain ⟨E, h, hE⟩ := eqCells_run (be := be) (ga := ga) (O := O) (w := w) _ _ _ _ _ h
  refine ⟨_, h, fun c => ?_⟩
  obtain ⟨xs, e1, hxs, hx2⟩ := hv c
  obtain ⟨ys, e2, hys, hy2⟩ := hu c
  have hm1 := beqN hm.1
  have hm2 := beqN hm.2
  have run := (leaves_sound (P := P) (w := w) 8 t ts hl).2 10000 (by omega) xs ys E (by omega) (by omega) (fun j t ht => by
    have hj : j < ts.length := (List.getElem?_eq_some_iff.1 ht).1
    obtain ⟨p, hp1, _, hp2⟩ := hx2 j (by omega)
    obtain ⟨q, hq1, _, hq2⟩ := hy2 j (by omega)
    exact ⟨p, q, hp1, hq1, hE j t ht p q (by rw [Nat.zero_add]; exact hp2) (by rw [Nat.zero_add]; exact hq2)⟩)
  simp only [vOf, ha, if_true] at run
  cases neg
  · simp only [cond_false, decide_eq_true_eq] at hb
    subst hb
    refine ⟨.bool ((List.range ts.length).all E), ?_, rfl⟩
    simp only [execOp, ho, e1, e2, Sem.run_bind, run_eqGuard_agg w _ _ _ _ _ _ hg, Result.andThen_ok, run_eql_struct, run, Sem.run_pure]
  · simp only [cond_true, decide_eq_true_eq] at hb
    subst hb
    refine ⟨.bool (!(List.range ts.length).all E), ?_, rfl⟩
    simp only [execOp, ho, e1, e2, Sem.run_bind, run_eqGuard_agg w _ _ _ _ _ _ hg, Result.andThen_ok, run_neq_struct, run, Sem.run_pure]
/-! bytes as a string -/

def isU8T (P : Program) (t : TypeId) : Bool :=
  match P.underlying t with
  | some (.int .u8) => true
  | _ => false
theorem isU8T_eq {t : TypeId} (h : isU8T P t = true) : P.underlying t = some (.int .u8) := by
  unfold isU8T at h; split at h
  · assumption
  · exact absurd h (by decide)
def cB2s (P : Program) (op : Op) (x : Opd) : Bool :=
  match op with
  | .convert s d x' => (match slE P s with
    | some e => isU8T P e
    | none => false) && isStrT P d && chkX x' x
  | _ => false
theorem foldl_push (ns : List Int) : ∀ (s : List UInt8), ns.foldl (fun (r : ByteArray) n => r.push (UInt8.ofNat n.toNat)) ⟨⟨s⟩⟩ = ⟨⟨s ++ ns.map fun n => UInt8.ofNat n.toNat⟩⟩ := by
  induction ns with
  | nil => intro s; simp
  | cons n ns ih =>
    intro s
    rw [List.foldl_cons, show (⟨⟨s⟩⟩ : ByteArray).push (UInt8.ofNat n.toNat) = ⟨⟨s ++ [UInt8.ofNat n.toNat]⟩⟩ by simp [ByteArray.push], ih]
    simp
theorem isU8_val {x : Cell} (h : isU8 x) : ∃ n, x = .int .u8 n := by
  unfold isU8 at h; split at h
  · exact ⟨_, rfl⟩
  · exact h.elim
theorem v_b2s {x : Opd} (hs : Slots be ga O w fr a) (he : Ents be ga O w B hp) (hc : cB2s P o.op x = true) (h : (pv hp ga cnd fr (.b2s x)).run K) : ∃ v, K v ∧ (cnd → Ex P a o w (RA be ga O w) v) := by
  unfold cB2s at hc
  split at hc
  case h_2 => exact absurd hc (by decide)
  rename_i s d x' ho
  simp only [Bool.and_eq_true] at hc
  obtain ⟨⟨hsl, hd⟩, hx⟩ := hc
  split at hsl
  case h_2 => exact absurd hsl (by decide)
  rename_i e hse
  have hs1 := slE_eq hse
  have he1 := isU8T_eq hsl
  have hd1 := isStrT_eq hd
  simp only [pv, M.run_bind] at h
  replace h := rd_sound hs hx h
  obtain ⟨v, h, hv⟩ := h
  have run : ∀ (b off n cap : Nat) (f : Nat → Cell), a.eval x' = .slice (some ⟨b, off, none⟩) n cap → (∀ i, i < n → isU8 (f i) ∧ ∃ u, w.cell? ⟨b, off + i, none⟩ = some u ∧ RC O w (f i) u) →
      (execOp a.eval o).run P w = .ok (.value (.string ⟨⟨bytesOf n f⟩⟩)) w := by
    intro b off n cap f e1 hf
    let num : Nat → Int := fun i => match f i with | .int _ m => m | _ => 0
    have hl : (loadCells ⟨b, off, none⟩ n).run P w = .ok (((List.range n).map num).map (Value.int .u8)).toArray w := by
      rw [run_loadCells w ⟨b, off, none⟩ n (fun i => .int .u8 (num i)) (fun i hi => by
        obtain ⟨h1, u, hu, hr⟩ := hf i hi
        obtain ⟨m, hm⟩ := isU8_val h1
        rw [addr_add, hu]
        rw [hm] at hr
        have : num i = m := by show (match f i with | .int _ m => m | _ => 0) = m; rw [hm]
        rw [this]; exact congrArg some hr)]
      rw [List.map_map]; rfl
    simp only [execOp, ho, e1, Sem.run_bind, run_convert_bytes_string w s d e _ _ _ hs1 he1 hd1, run_bytesToString w _ _ _ _ hl, Result.andThen_ok, Sem.run_pure]
    congr 3
    rw [show ByteArray.empty = ⟨⟨[]⟩⟩ from rfl, foldl_push, List.nil_append, List.map_map]
    congr 2
    apply List.map_congr_left
    intro i hi
    obtain ⟨m, hm⟩ := isU8_val (hf i (by simpa using hi)).1
    simp only [Function.comp_def]
    show UInt8.ofNat (match f i with | .int _ m => m | _ => 0).toNat = toU8 (f i)
    rw [hm]; rfl
  have runNil : ∀ p, a.eval x' = .slice p 0 0 → (execOp a.eval o).run P w = .ok (.value (.string ⟨⟨[]⟩⟩)) w := by
    intro p e1
    simp only [execOp, ho, e1, Sem.run_bind, run_convert_bytes_string w s d e _ _ _ hs1 he1 hd1]
    cases p with
    | none => simp [Conv.bytesToString]; rfl
    | some p => simp [Conv.bytesToString, loadCells, loadCellsFrom]; rfl
  rw [b2s_eq] at h
  unfold b2s0 at h
  split at h
  · exact ⟨_, h, fun c => ⟨_, runNil none (hv c), rfl⟩⟩
  · rename_i sz n f
    rw [M.run_iff', M.run_need] at h
    obtain ⟨z, hu8, h⟩ := h
    obtain rfl := beqN z
    refine ⟨_, h, fun c => ?_⟩
    rcases hv c with ⟨hn, p, e1⟩ | ⟨b, off, cap, e1, _, _, hcells⟩
    · subst hn
      exact ⟨_, runNil p e1, rfl⟩
    · refine ⟨_, run b off n cap (fun i => f i 0) e1 (fun i hi => ⟨hu8 i hi, ?_⟩), rfl⟩
      obtain ⟨_, u, hu, hr⟩ := hcells i hi 0 (by omega)
      exact ⟨u, by simpa using hu, hr⟩
  · rename_i s' q sz off len
    replace h := getE_run h
    obtain ⟨hq, e', hse', h⟩ := h
    rw [M.run_iff', M.run_need] at h
    obtain ⟨z, hle, h⟩ := h
    simp only [Bool.and_eq_true] at z
    have z1 := beqN z.1
    obtain rfl := beqN z.2
    split at h
    · rename_i cc hcc
      refine ⟨_, h.r, fun c => ?_⟩
      have hu8 := h.l
      obtain ⟨_, hv⟩ := hv c
      subst hq
      rcases hv with ⟨_, _, rfl, e1⟩ | ⟨b, oo, cap, cs, el, fz, hb, e1, hc1, hc2, hc3, hh, hc4⟩
      · exact ⟨_, runNil none e1, rfl⟩
      · refine ⟨_, run b oo len cap (fun i => cc (off + i) 0) e1 (fun i hi => ⟨hu8 i hi, ?_⟩), rfl⟩
        obtain ⟨u, hu, _, hr⟩ := ent_at he hse' hb (row := off + i) (col := 0) (by omega) (by omega)
        rw [hcc] at hr
        rw [hc3 (by omega)]
        exact ⟨u, by rw [z1] at hu; simpa using hu, hr⟩
    · exact h.elim
  · exact h.elim
/-! an array as a slice -/

def cSlA (P : Program) (op : Op) (size len : Nat) (x : Opd) : Bool :=
  match op with
  | .slice t x' none none none => (match P.underlying t with
    | some (.array l e) => Nat.beq l len && szT P e size
    | _ => false) && decide (len ≤ 1000000) && chkX x' x
  | _ => false
theorem v_slA {size len : Nat} {x : Opd} (hs : Slots be ga O w fr a) (he : Ents be ga O w B hp) (hc : cSlA P o.op size len x = true) (h : (pv hp ga cnd fr (.slA size len x)).run K) : ∃ v, K v ∧ (cnd → Ex P a o w (RA be ga O w) v) := by
  unfold cSlA at hc
  split at hc
  case h_2 => exact absurd hc (by decide)
  rename_i t x' ho
  simp only [Bool.and_eq_true] at hc
  obtain ⟨⟨ht, hlen⟩, hx⟩ := hc
  split at ht
  case h_2 => exact absurd ht (by decide)
  rename_i l e hu
  simp only [Bool.and_eq_true] at ht
  obtain rfl := beqN ht.1
  obtain ⟨inf, hinf, hsz⟩ := szT_eq ht.2
  simp only [decide_eq_true_eq] at hlen
  simp only [pv, M.run_bind] at h
  replace h := rd_sound hs hx h
  obtain ⟨v, h, hv⟩ := h
  unfold slA at h
  split at h
  · rename_i s q sz row col
    replace h := getE_run h
    obtain ⟨hq, e', hse', h⟩ := h
    rw [M.run_iff', M.run_need] at h
    simp only [Bool.and_eq_true] at h
    obtain ⟨⟨⟨⟨z, z1⟩, z2⟩, z3⟩, hn, h⟩ := h
    obtain rfl := beqN z
    obtain rfl := beqN z1
    obtain rfl := beqN z2
    have z3 := beqN z3
    refine ⟨_, h, fun c => ?_⟩
    obtain ⟨hq', b, hb, e1⟩ := hv c
    subst hq
    rcases he s e' hse' with ⟨h0, _⟩ | ⟨b', cs, el, fz, h1, h2, h3, h4⟩
    · rw [hb] at h0; exact absurd h0 (by simp)
    · rw [hb] at h1
      obtain rfl := Option.some.inj h1
      refine ⟨.slice (some ⟨b, 0, none⟩) l l, ?_, hq', Or.inr ⟨b, 0, l, cs, el, fz, hb, rfl, Nat.le_refl _, by omega, fun _ => by omega, h3, ?_⟩⟩
      · subst hsz
        simp [execOp, ho, e1, Instr.sliceAt, Instr.sureAddr, run_underlying hu, Instr.sliceBounds, run_sizeOf hinf, Addr.add]
      · have := h4.fit
        rw [hn, z3] at this
        omega
  · exact h.elim
/-! a field of a struct by value -/

def cFld (P : Program) (op : Op) (off m : Nat) (agg : Bool) (x : Opd) : Bool :=
  match op with
  | .field t x' i => (match P.underlying t with
    | some (.struct fs) => (match fs[i]? with
      | some f => Nat.beq f.offset off && szT P f.type m && (bif agg then isAggT P f.type else isOneT P f.type)
      | none => false)
    | _ => false) && chkX x' x
  | _ => false
theorem v_fldA {off m : Nat} {x : Opd} (hs : Slots be ga O w fr a) (hc : cFld P o.op off m true x = true) (h : (pv hp ga cnd fr (.fldA off m x)).run K) : ∃ v, K v ∧ (cnd → Ex P a o w (RA be ga O w) v) := by
  unfold cFld at hc
  split at hc
  case h_2 => exact absurd hc (by decide)
  rename_i t x' i' ho
  simp only [Bool.and_eq_true] at hc
  obtain ⟨ht, hx⟩ := hc
  split at ht
  case h_2 => exact absurd ht (by decide)
  rename_i fs hu
  split at ht
  case h_2 => exact absurd ht (by decide)
  rename_i f hf
  simp only [Bool.and_eq_true, cond_true] at ht
  obtain ⟨⟨hoff, hsz⟩, hagg⟩ := ht
  obtain rfl := beqN hoff
  obtain ⟨inf, hinf, hsz⟩ := szT_eq hsz
  simp only [pv, M.run_bind] at h
  replace h := rd_sound hs hx h
  obtain ⟨v, h, hv⟩ := h
  split at h
  · rename_i n g
    rw [M.run_iff'] at h
    obtain ⟨hle, h⟩ := h
    have hle := Nat.le_of_ble_eq_true hle
    refine ⟨_, h, fun c => ?_⟩
    obtain ⟨cs, e1, hcs, hall⟩ := hv c
    refine ⟨.agg (cs.extract f.offset (f.offset + m)), ?_, _, rfl, by simp; omega, fun j hj => ?_⟩
    · simp [execOp, ho, e1, Instr.field, asAgg, run_underlying hu, hf, part, run_isAgg_true hagg, run_sizeOf hinf, hsz]
    · obtain ⟨y, hy, h1, hr⟩ := hall (f.offset + j) (by omega)
      refine ⟨y, ?_, h1, hr⟩
      rw [Array.getElem?_extract, if_pos (by omega)]
      exact hy
  · exact h.elim
theorem v_fld1 {off : Nat} {x : Opd} (hs : Slots be ga O w fr a) (hc : cFld P o.op off 1 false x = true) (h : (pv hp ga cnd fr (.fld1 off x)).run K) : ∃ v, K v ∧ (cnd → Ex P a o w (RA be ga O w) v) := by
  unfold cFld at hc
  split at hc
  case h_2 => exact absurd hc (by decide)
  rename_i t x' i' ho
  simp only [Bool.and_eq_true] at hc
  obtain ⟨ht, hx⟩ := hc
  split at ht
  case h_2 => exact absurd ht (by decide)
  rename_i fs hu
  split at ht
  case h_2 => exact absurd ht (by decide)
  rename_i f hf
  simp only [Bool.and_eq_true, cond_false] at ht
  obtain ⟨⟨hoff, hsz⟩, hone⟩ := ht
  obtain rfl := beqN hoff
  simp only [pv, M.run_bind] at h
  replace h := rd_sound hs hx h
  obtain ⟨v, h, hv⟩ := h
  split at h
  · rename_i n g
    rw [M.run_iff'] at h
    obtain ⟨hle, h⟩ := h
    have hle := Nat.le_of_ble_eq_true hle
    refine ⟨_, h, fun c => ?_⟩
    obtain ⟨cs, e1, hcs, hall⟩ := hv c
    obtain ⟨y, hy, h1, hr⟩ := hall f.offset (by omega)
    refine ⟨y, ?_, hr⟩
    simp [execOp, ho, e1, Instr.field, asAgg, run_underlying hu, hf, part, run_isAgg_false hone, hy]
  · exact h.elim
/-! an element of an array by value -/

def cIdxA (P : Program) (op : Op) (len : Nat) (x i : Opd) : Bool :=
  match op with
  | .index t x' i' => (match P.underlying t with
    | some (.array l e) => Nat.beq l len && szT P e 1 && isOneT P e
    | _ => false) && chkX x' x && chkX i' i
  | _ => false
theorem v_idxA {len : Nat} {x i : Opd} (hs : Slots be ga O w fr a) (hc : cIdxA P o.op len x i = true) (h : (pv hp ga cnd fr (.idxA len x i)).run K) : ∃ v, K v ∧ (cnd → Ex P a o w (RA be ga O w) v) := by
  unfold cIdxA at hc
  split at hc
  case h_2 => exact absurd hc (by decide)
  rename_i t x' i' ho
  simp only [Bool.and_eq_true] at hc
  obtain ⟨⟨ht, hx⟩, hi⟩ := hc
  split at ht
  case h_2 => exact absurd ht (by decide)
  rename_i l e hu
  simp only [Bool.and_eq_true] at ht
  obtain ⟨⟨hl, hsz⟩, hone⟩ := ht
  obtain rfl := beqN hl
  obtain ⟨inf, hinf, hsz⟩ := szT_eq hsz
  simp only [pv, M.run_bind] at h
  replace h := rd_sound hs hx h
  obtain ⟨v, h, hv⟩ := h
  replace h := rd_sound hs hi h
  obtain ⟨u, h, hu'⟩ := h
  replace h := asI_run h
  obtain ⟨k, n, rfl, h⟩ := h
  split at h
  · rename_i m f
    rw [M.run_iff', M.run_need] at h
    obtain ⟨hm, ⟨h0, h1⟩, h⟩ := h
    have hm := Nat.le_of_ble_eq_true hm
    refine ⟨_, h, fun c => ?_⟩
    obtain ⟨cs, e1, hcs, hall⟩ := hv c
    have e2 := hu' c
    simp only [RA, RC] at e2
    obtain ⟨y, hy, _, hr⟩ := hall n.toNat (by omega)
    refine ⟨y, ?_, hr⟩
    simp [execOp, ho, e1, e2, Instr.index, asIntOf, run_underlying hu, h0, h1, run_sizeOf hinf, hsz, part, run_isAgg_false hone, hy]
  · exact h.elim
/-! lengths -/

def isSlT (P : Program) (t : TypeId) : Bool := (slE P t).isSome
def cLen (P : Program) (op : Op) (str : Bool) (x : Opd) : Bool :=
  match op with
  | .call c => (match c.callee with
    | .builtin .len => true
    | _ => false) && (match c.args.toList with
    | [x'] => chkX x' x
    | _ => false) && (match c.argTypes.toList with
    | [t] => bif str then isStrT P t else isSlT P t
    | _ => false)
  | _ => false
theorem toList_one {α : Type} {xs : Array α} {x : α} (h : xs.toList = [x]) : xs = #[x] := by
  cases xs; simp only at h; rw [h]
theorem builtin_len {c : Call} {x' : Operand} {t : TypeId} (hc : c.callee = .builtin .len) (ha : c.args = #[x']) (ht : c.argTypes = #[t]) (ho : o.op = .call c) {u : Value}
    (h : ∀ ty, (Builtin.len_ #[t] ty #[a.eval x']).run P w = .ok u w) : (execOp a.eval o).run P w = .ok (.value u) w := by
  simp [execOp, ho, resolve, hc, ha, ht, invoke, builtin, h]
theorem cLen_run {str : Bool} {x : Opd} (hc : cLen P o.op str x = true) : ∃ x' t, chkX x' x = true ∧ (bif str then isStrT P t else isSlT P t) = true ∧
    ∀ u, (∀ ty, (Builtin.len_ #[t] ty #[a.eval x']).run P w = .ok u w) → (execOp a.eval o).run P w = .ok (.value u) w := by
  unfold cLen at hc
  split at hc
  case h_2 => exact absurd hc (by decide)
  rename_i c ho
  simp only [Bool.and_eq_true] at hc
  obtain ⟨⟨hcal, harg⟩, hty⟩ := hc
  split at hcal
  case h_2 => exact absurd hcal (by decide)
  rename_i hcal'
  split at harg
  case h_2 => exact absurd harg (by decide)
  rename_i x' hx'
  split at hty
  case h_2 => exact absurd hty (by decide)
  rename_i t ht
  exact ⟨x', t, harg, hty, fun u => builtin_len (P := P) (a := a) (w := w) (u := u) hcal' (toList_one hx') (toList_one ht) ho⟩
theorem v_lenT {x : Opd} (hs : Slots be ga O w fr a) (hc : cLen P o.op true x = true) (h : (pv hp ga cnd fr (.lenT x)).run K) : ∃ v, K v ∧ (cnd → Ex P a o w (RA be ga O w) v) := by
  obtain ⟨x', t, hx, hty, run⟩ := cLen_run (P := P) (a := a) (w := w) hc
  simp only [pv, M.run_bind] at h
  replace h := rd_sound hs hx h
  obtain ⟨v, h, hv⟩ := h
  replace h := asS_run h
  obtain ⟨l, rfl, h⟩ := h
  refine ⟨_, h, fun c => ⟨_, run _ fun ty => ?_, rfl⟩⟩
  have e1 := hv c
  simp only [RA, RC] at e1
  simp [Builtin.len_, e1, run_underlying (isStrT_eq hty), goInt, bytes_size]
theorem v_lenS {x : Opd} (hs : Slots be ga O w fr a) (hc : cLen P o.op false x = true) (h : (pv hp ga cnd fr (.lenS x)).run K) : ∃ v, K v ∧ (cnd → Ex P a o w (RA be ga O w) v) := by
  obtain ⟨x', t, hx, hty, run⟩ := cLen_run (P := P) (a := a) (w := w) hc
  simp only [pv, M.run_bind] at h
  replace h := rd_sound hs hx h
  obtain ⟨v, h, hv⟩ := h
  obtain ⟨e, he⟩ := Option.isSome_iff_exists.1 (show (slE P t).isSome = true from hty)
  have rslice : ∀ p n cap, a.eval x' = .slice p n cap → (execOp a.eval o).run P w = .ok (.value (.int .i64 n)) w := fun p n cap e1 =>
    run _ (fun ty => by simp [Builtin.len_, e1, run_underlying (slE_eq he), goInt])
  unfold lenV at h
  split at h
  · refine ⟨_, h, fun c => ?_⟩
    obtain ⟨p, cap, e1, _⟩ := RC_sl_val (hv c)
    exact ⟨_, rslice _ _ _ e1, rfl⟩
  · exact ⟨_, h, fun c => ⟨_, rslice _ _ _ (hv c), rfl⟩⟩
  · refine ⟨_, h, fun c => ?_⟩
    obtain ⟨p, cap, e1, _⟩ := RA_os_val (hv c)
    exact ⟨_, rslice _ _ _ e1, rfl⟩
  · exact h.elim
def cCap (P : Program) (op : Op) (x : Opd) : Bool :=
  match op with
  | .call c => (match c.callee with
    | .builtin .cap => true
    | _ => false) && (match c.args.toList with
    | [x'] => chkX x' x
    | _ => false) && (match c.argTypes.toList with
    | [t] => isSlT P t
    | _ => false)
  | _ => false
theorem builtin_cap {c : Call} {x' : Operand} {t : TypeId} (hc : c.callee = .builtin .cap) (ha : c.args = #[x']) (ht : c.argTypes = #[t]) (ho : o.op = .call c) {u : Value}
    (h : ∀ ty, (Builtin.cap_ #[t] ty #[a.eval x']).run P w = .ok u w) : (execOp a.eval o).run P w = .ok (.value u) w := by
  simp [execOp, ho, resolve, hc, ha, ht, invoke, builtin, h]
theorem v_capS {x : Opd} (hs : Slots be ga O w fr a) (hc : cCap P o.op x = true) (h : (pv hp ga cnd fr (.capS x)).run K) : ∃ v, K v ∧ (cnd → Ex P a o w (RA be ga O w) v) := by
  unfold cCap at hc
  split at hc
  case h_2 => exact absurd hc (by decide)
  rename_i c ho
  simp only [Bool.and_eq_true] at hc
  obtain ⟨⟨hcal, harg⟩, hty⟩ := hc
  split at hcal
  case h_2 => exact absurd hcal (by decide)
  rename_i hcal'
  split at harg
  case h_2 => exact absurd harg (by decide)
  rename_i x' hx'
  split at hty
  case h_2 => exact absurd hty (by decide)
  rename_i t ht
  simp only [pv, M.run_bind] at h
  replace h := rd_sound hs harg h
  obtain ⟨v, h, hv⟩ := h
  unfold capV at h
  split at h
  · refine ⟨_, h, fun c => ⟨_, builtin_cap (P := P) (a := a) (w := w) hcal' (toList_one hx') (toList_one ht) ho (fun ty => ?_), rfl⟩⟩
    have e1 : a.eval x' = .slice none 0 0 := hv c
    obtain ⟨e, he⟩ := Option.isSome_iff_exists.1 (show (slE P t).isSome = true from hty)
    simp [Builtin.cap_, e1, run_underlying (slE_eq he), goInt]
  · exact h.elim
def cLenK (P : Program) (op : Op) (n : Nat) : Bool :=
  match op with
  | .call c => (match c.callee with
    | .builtin .len => true
    | _ => false) && (match c.args.toList with
    | [_] => true
    | _ => false) && (match c.argTypes.toList with
    | [t] => (match P.underlying t with
      | some (.array l _) => Nat.beq l n
      | _ => false)
    | _ => false)
  | _ => false
theorem v_lenK {n : Nat} (hc : cLenK P o.op n = true) (h : (pv hp ga cnd fr (.lenK n)).run K) : ∃ v, K v ∧ (cnd → Ex P a o w (RA be ga O w) v) := by
  unfold cLenK at hc
  split at hc
  case h_2 => exact absurd hc (by decide)
  rename_i c ho
  simp only [Bool.and_eq_true] at hc
  obtain ⟨⟨hcal, harg⟩, hty⟩ := hc
  split at hcal
  case h_2 => exact absurd hcal (by decide)
  rename_i hcal'
  split at harg
  case h_2 => exact absurd harg (by decide)
  rename_i x' hx'
  split at hty
  case h_2 => exact absurd hty (by decide)
  rename_i t ht
  split at hty
  case h_2 => exact absurd hty (by decide)
  rename_i l e hu
  obtain rfl := beqN hty
  refine ⟨_, h, fun c => ⟨_, builtin_len (P := P) (a := a) (w := w) hcal' (toList_one hx') (toList_one ht) ho fun ty => ?_, rfl⟩⟩
  simp [Builtin.len_, run_underlying hu, goInt]
/-! min, max -/

def chkXs : List Operand → List Opd → Bool
  | [], [] => true
  | x :: r, y :: s => chkX x y && chkXs r s
  | _, _ => false
def cMm (op : Op) (mx : Bool) (x : Opd) (xs : List Opd) : Bool :=
  match op with
  | .call c => (match c.callee with
    | .builtin .max => mx
    | .builtin .min => !mx
    | _ => false) && chkXs c.args.toList (x :: xs)
  | _ => false
theorem foldlM_run {f : Value → Value → Sem Value} {mx : Bool} (hf : ∀ k x k' y, (f (.int k x) (.int k' y)).run P w = .ok (.int k (bif mx then max x y else min x y)) w) (hs : Slots be ga O w fr a) (k : IntKind) :
    ∀ (ys : List Opd) (xs : List Operand) (m : Int), chkXs xs ys = true → (mmL cnd fr mx k m ys).run K → ∃ v, K v ∧ (cnd → ∃ n, ((xs.map a.eval).foldlM f (.int k m)).run P w = .ok (.int k n) w ∧ v = .c (.int k n)) := by
  intro ys
  induction ys with
  | nil =>
    intro xs m hc h
    cases xs with
    | nil => exact ⟨_, h, fun _ => ⟨m, by simp, rfl⟩⟩
    | cons => exact absurd hc (by simp [chkXs])
  | cons y ys ih =>
    intro xs m hc h
    cases xs with
    | nil => exact absurd hc (by simp [chkXs])
    | cons x xs =>
      simp only [chkXs, Bool.and_eq_true] at hc
      simp only [mmL, M.run_bind] at h
      replace h := rd_sound hs hc.1 h
      obtain ⟨v, h, hv⟩ := h
      replace h := asI_run h
      obtain ⟨k', n, rfl, h⟩ := h
      obtain ⟨v, hk, hr⟩ := ih xs _ hc.2 h
      refine ⟨v, hk, fun c => ?_⟩
      obtain ⟨r, hr, e⟩ := hr c
      have e1 := hv c
      simp only [RA, RC] at e1
      exact ⟨r, by simp [e1, hf, hr], e⟩
theorem v_mm {mx : Bool} {x : Opd} {xs : List Opd} (hs : Slots be ga O w fr a) (hc : cMm o.op mx x xs = true) (h : (pv hp ga cnd fr (.mm mx x xs)).run K) : ∃ v, K v ∧ (cnd → Ex P a o w (RA be ga O w) v) := by
  unfold cMm at hc
  split at hc
  case h_2 => exact absurd hc (by decide)
  rename_i c ho
  simp only [Bool.and_eq_true] at hc
  obtain ⟨hcal, harg⟩ := hc
  cases hargs : c.args.toList with
  | nil => rw [hargs] at harg; exact absurd harg (by simp [chkXs])
  | cons y ys =>
    rw [hargs] at harg
    simp only [chkXs, Bool.and_eq_true] at harg
    have hargs' : c.args = (y :: ys).toArray := by rw [← hargs]
    simp only [pv, M.run_bind] at h
    replace h := rd_sound hs harg.1 h
    obtain ⟨v, h, hv⟩ := h
    replace h := asI_run h
    obtain ⟨k, n, rfl, h⟩ := h
    split at hcal
    · rename_i hcal'
      subst hcal
      obtain ⟨v, hk, hr⟩ := foldlM_run (P := P) (w := w) (f := Builtin.max2) (mx := true) (fun k x k' y => by simp only [Builtin.max2, Sem.run_pure, cond_true]; congr 2; split <;> omega) hs k xs ys n harg.2 h
      refine ⟨v, hk, fun cc => ?_⟩
      obtain ⟨r, hr, e⟩ := hr cc
      have e1 := hv cc
      simp only [RA, RC] at e1
      refine ⟨_, ?_, by rw [e]; rfl⟩
      simp [execOp, ho, resolve, hcal', hargs', invoke, builtin, Builtin.max_, e1, hr]
    · rename_i hcal'
      have hmx : mx = false := by simpa using hcal
      subst hmx
      obtain ⟨v, hk, hr⟩ := foldlM_run (P := P) (w := w) (f := Builtin.min2) (mx := false) (fun k x k' y => by simp only [Builtin.min2, Sem.run_pure, cond_false]; congr 2; split <;> omega) hs k xs ys n harg.2 h
      refine ⟨v, hk, fun cc => ?_⟩
      obtain ⟨r, hr, e⟩ := hr cc
      have e1 := hv cc
      simp only [RA, RC] at e1
      refine ⟨_, ?_, by rw [e]; rfl⟩
      simp [execOp, ho, resolve, hcal', hargs', invoke, builtin, Builtin.min_, e1, hr]
    · exact absurd hcal (by decide)
/-! parts of a tuple -/

def cExtr (op : Op) (i : Nat) (x : Opd) : Bool :=
  match op with
  | .extract x' i' => Nat.beq i' i && chkX x' x
  | _ => false
theorem v_extr {i : Nat} {x : Opd} (hs : Slots be ga O w fr a) (hc : cExtr o.op i x = true) (h : (pv hp ga cnd fr (.extr i x)).run K) : ∃ v, K v ∧ (cnd → Ex P a o w (RA be ga O w) v) := by
  unfold cExtr at hc
  split at hc
  case h_2 => exact absurd hc (by decide)
  rename_i x' i' ho
  simp only [Bool.and_eq_true] at hc
  obtain ⟨hi, hx⟩ := hc
  obtain rfl := beqN hi
  simp only [pv, M.run_bind] at h
  replace h := rd_sound hs hx h
  obtain ⟨v, h, hv⟩ := h
  split at h
  · rename_i n f
    rw [M.run_iff'] at h
    have hn := Nat.le_of_ble_eq_true h.1
    refine ⟨_, h.2, fun c => ?_⟩
    obtain ⟨cs, e1, hcs, hall⟩ := hv c
    obtain ⟨u, hu, hr⟩ := hall i' (by omega)
    exact ⟨u, by simp [execOp, ho, e1, Instr.extract, hu], hr⟩
  · exact h.elim
end
end Lk
namespace Lk
open Go Go.RowKit
section
variable {P : Program} {be : Nm} {ga : Nat → Nat} {O : Nat → Prop} {w : World} {fr : Nat → AV} {hp : Nat → Option Ent} {a : Act} {o : Oper} {cnd : Prop} {K : AV → Prop} {B : Nat}
def plc (P : Program) (t : TypeId) (i : Nat) : Option (Nat × Nat) :=
  match P.underlying t with
  | some (.array _ e) => (P.info? e).map fun ie => (i * ie.size, ie.size)
  | some (.struct fs) => (match fs.toList.mapM (fun f => (P.info? f.type).map fun i => (f.offset, i.size)) with
    | some pl => pl.toArray[i]?
    | none => none)
  | _ => none
def okPlc (P : Program) (t : TypeId) : Bool :=
  match P.underlying t with
  | some (.array _ e) => (P.info? e).isSome
  | some (.struct fs) => (fs.toList.mapM (fun f => (P.info? f.type).map fun i => (f.offset, i.size))).isSome
  | _ => false
def chkZ : List Value → List Cst → Bool
  | [], [] => true
  | v :: r, c :: s => chkC v c && chkZ r s
  | _, _ => false
theorem chkZ_len : ∀ {vs : List Value} {z : List Cst}, chkZ vs z = true → vs.length = z.length
  | [], [], _ => rfl
  | v :: r, c :: s, h => by
    simp only [chkZ, Bool.and_eq_true] at h
    simp [chkZ_len h.2]
  | [], c :: s, h => absurd h (by simp [chkZ])
  | v :: r, [], h => absurd h (by simp [chkZ])
theorem chkZ_RA : ∀ {vs : List Value} {z : List Cst}, chkZ vs z = true → ∀ j, j < z.length → ∃ u, vs[j]? = some u ∧ u.oneCell' = true ∧ RA be ga O w (avs z j) u ∧ RC O w (cells z j) u
  | [], [], _, j, hj => absurd hj (by simp)
  | v :: r, c :: s, h, j, hj => by
    simp only [chkZ, Bool.and_eq_true] at h
    cases j with
    | zero => exact ⟨v, rfl, chkC_one h.1, chkC_RA h.1 .., chkC_RC h.1 ..⟩
    | succ j => simpa [avs, cells] using chkZ_RA h.2 j (by simpa using hj)
  | [], c :: s, h, _, _ => absurd h (by simp [chkZ])
  | v :: r, [], h, _, _ => absurd h (by simp [chkZ])
def chkZero (P : Program) (t : TypeId) (z : List Cst) : Bool :=
  match P.info? t with
  | some i => (match i.zero with
    | some v => chkZ v.cells.toList z && Nat.beq i.size z.length
    | none => false)
  | none => false
theorem chkZero_eq {t : TypeId} {z : List Cst} (h : chkZero P t z = true) : ∃ i v, P.info? t = some i ∧ i.zero = some v ∧ chkZ v.cells.toList z = true ∧ i.size = z.length := by
  unfold chkZero at h
  split at h
  case h_2 => exact absurd h (by decide)
  rename_i i hi
  split at h
  case h_2 => exact absurd h (by decide)
  rename_i v hv
  simp only [Bool.and_eq_true] at h
  exact ⟨i, v, hi, hv, h.1, beqN h.2⟩
theorem fold_set (l : List Value) : ∀ (k off : Nat) (cs : Array Value),
    ((l.zipIdx k).foldl (fun cs (c, j) => cs.setIfInBounds (off + j) c) cs).size = cs.size ∧
    ∀ m, ((l.zipIdx k).foldl (fun cs (c, j) => cs.setIfInBounds (off + j) c) cs)[m]? = if off + k ≤ m ∧ m < off + k + l.length ∧ m < cs.size then l[m - (off + k)]? else cs[m]? := by
  induction l with
  | nil => intro k off cs; exact ⟨rfl, fun m => by rw [if_neg (by simp; omega)]; rfl⟩
  | cons v l ih =>
    intro k off cs
    simp only [List.zipIdx_cons, List.foldl_cons]
    obtain ⟨h1, h2⟩ := ih (k + 1) off (cs.setIfInBounds (off + k) v)
    refine ⟨by rw [h1]; simp, fun m => ?_⟩
    rw [h2 m]
    simp only [Array.size_setIfInBounds, List.length_cons]
    by_cases hm : m = off + k
    · subst hm
      rw [if_neg (by omega)]
      by_cases hs : off + k < cs.size
      · rw [if_pos ⟨by omega, by omega, hs⟩, Nat.sub_self, Array.getElem?_setIfInBounds_self]
        simp [hs]
      · rw [if_neg (by omega), Array.getElem?_eq_none (by simp; omega), Array.getElem?_eq_none (by omega)]
    · by_cases hc : off + (k + 1) ≤ m ∧ m < off + (k + 1) + l.length ∧ m < cs.size
      · rw [if_pos hc, if_pos (by omega), show m - (off + k) = (m - (off + (k + 1))) + 1 by omega, List.getElem?_cons_succ]
      · rw [if_neg hc, if_neg (by omega), Array.getElem?_setIfInBounds_ne (by omega)]
def chkParts (P : Program) (t : TypeId) (n : Nat) : List (Nat × Operand) → List (Nat × Nat × Opd) → Bool
  | [], [] => true
  | (i, x) :: r, (off, size, y) :: s => decide (plc P t i = some (off, size)) && decide (off + size ≤ n) && chkX x y && chkParts P t n r s
  | _, _ => false
def Reads (be : Nm) (ga : Nat → Nat) (O : Nat → Prop) (w : World) (n : Nat) (f : Nat → AV) (cs : Array Value) : Prop :=
  cs.size = n ∧ ∀ j, j < n → ∃ u, cs[j]? = some u ∧ u.oneCell' = true ∧ RA be ga O w (f j) u
theorem Reads.fill {n : Nat} {f : Nat → AV} {cs : Array Value} (h : Reads be ga O w n f cs) {off m : Nat} {g : Nat → AV} {vs : Array Value} (hg : Reads be ga O w m g vs) (hle : off + m ≤ n) :
    Reads be ga O w n (fillF f off m g) (vs.zipIdx.foldl (fun cs (c, j) => cs.setIfInBounds (off + j) c) cs) := by
  obtain ⟨h1, h2⟩ := h
  obtain ⟨g1, g2⟩ := hg
  have hf := fold_set vs.toList 0 off cs
  have e : vs.zipIdx.foldl (fun cs (c, j) => cs.setIfInBounds (off + j) c) cs = (vs.toList.zipIdx 0).foldl (fun cs (c, j) => cs.setIfInBounds (off + j) c) cs := by
    rw [← Array.foldl_toList, Array.toList_zipIdx]
  rw [e]
  refine ⟨hf.1.trans h1, fun j hj => ?_⟩
  rw [hf.2 j]
  simp only [Nat.add_zero, Array.length_toList, Array.getElem?_toList]
  by_cases hc : off ≤ j ∧ j < off + m
  · rw [if_pos ⟨hc.1, by omega, by omega⟩]
    obtain ⟨u, hu, ho, hr⟩ := g2 (j - off) (by omega)
    refine ⟨u, hu, ho, ?_⟩
    have e1 : Nat.ble off j = true := Nat.ble_eq_true_of_le hc.1
    have e2 : Nat.ble (off + m) j = false := by
      cases hb : Nat.ble (off + m) j with
      | false => rfl
      | true => exact absurd (Nat.le_of_ble_eq_true hb) (by omega)
    simp only [fillF, e1, e2, cond_true, cond_false]
    exact hr
  · rw [if_neg (by omega)]
    obtain ⟨u, hu, ho, hr⟩ := h2 j hj
    refine ⟨u, hu, ho, ?_⟩
    unfold fillF
    cases hb : Nat.ble off j with
    | false => exact hr
    | true =>
      have e2 : Nat.ble (off + m) j = true := Nat.ble_eq_true_of_le (by have := Nat.le_of_ble_eq_true hb; omega)
      simp only [cond_true, e2]
      exact hr
theorem isOne_run {α : Type} {v : AV} {m : M α} {L : α → Prop} (h : (isOne v m).run L) : m.run L ∧ ∀ u, RA be ga O w v u → u.oneCell' = true := by
  unfold isOne at h
  split at h
  · exact ⟨h, fun u hu => RC_one hu⟩
  · exact ⟨h, fun u hu => by rw [show u = .slice none 0 0 from hu]; rfl⟩
  · exact ⟨h, fun u hu => by obtain ⟨p, cap, e, _⟩ := RA_os_val hu; rw [e]; rfl⟩
  · exact ⟨h, fun u hu => by obtain ⟨_, b, _, e⟩ := hu; rw [e]; rfl⟩
  · exact ⟨h, fun u hu => by obtain ⟨_, b, _, e⟩ := hu; rw [e]; rfl⟩
  · exact h.elim
theorem cells_one {u : Value} (h : u.oneCell' = true) : u.cells = #[u] := by
  cases u <;> first | rfl | exact absurd h (by simp [Value.oneCell'])
theorem agg_reads {n : Nat} {g : Nat → AV} {u : Value} (h : RA be ga O w (.agg n g) u) : Reads be ga O w n g u.cells := by
  obtain ⟨cs, rfl, hn, hall⟩ := h
  exact ⟨hn, hall⟩
theorem one_reads {v : AV} {u : Value} (h1 : u.oneCell' = true) (h : RA be ga O w v u) : Reads be ga O w 1 (fun _ => v) u.cells := by
  rw [cells_one h1]
  exact ⟨rfl, fun j hj => ⟨u, by obtain rfl : j = 0 := by omega
                                 rfl, h1, h⟩⟩
theorem fillP_run {t : TypeId} {n : Nat} (hs : Slots be ga O w fr a) : ∀ (qs : List (Nat × Nat × Opd)) (ps : List (Nat × Operand)) (f : Nat → AV) (cs : Array Value) (L : (Nat → AV) → Prop),
    chkParts P t n ps qs = true → Reads be ga O w n f cs → (fillP cnd fr qs f).run L →
    ∃ g, L g ∧ (cnd → ∃ cs', Instr.fill (plc P t) cs (ps.map fun (i, x) => (i, a.eval x)) = some cs' ∧ Reads be ga O w n g cs') := by
  intro qs
  induction qs with
  | nil =>
    intro ps f cs L hc hr h
    cases ps with
    | nil => exact ⟨f, h, fun _ => ⟨cs, rfl, hr⟩⟩
    | cons => exact absurd hc (by simp [chkParts])
  | cons q qs ih =>
    intro ps f cs L hc hr h
    obtain ⟨off, size, y⟩ := q
    cases ps with
    | nil => exact absurd hc (by simp [chkParts])
    | cons p ps =>
      obtain ⟨i, x⟩ := p
      simp only [chkParts, Bool.and_eq_true, decide_eq_true_eq] at hc
      obtain ⟨⟨⟨hpl, hle⟩, hx⟩, hrest⟩ := hc
      simp only [fillP, M.run_bind] at h
      replace h := rd_sound hs hx h
      obtain ⟨v, h, hv⟩ := h
      -- one part, whatever it is
      have fin : ∀ (m : Nat) (g : Nat → AV), m = size → (cnd → Reads be ga O w m g (a.eval x).cells) → (fillP cnd fr qs (fillF f off m g)).run L →
          ∃ g, L g ∧ (cnd → ∃ cs', Instr.fill (plc P t) cs (((i, x) :: ps).map fun (i, x) => (i, a.eval x)) = some cs' ∧ Reads be ga O w n g cs') := by
        intro m g hm hg h'
        clear h
        subst hm
        by_cases hcnd : cnd
        · have hg := hg hcnd
          obtain ⟨g', hL, hg'⟩ := ih ps _ _ L hrest (hr.fill hg hle) h'
          refine ⟨g', hL, fun c => ?_⟩
          obtain ⟨cs', hf, hr'⟩ := hg' c
          refine ⟨cs', ?_, hr'⟩
          simp only [List.map_cons, Instr.fill, hpl]
          rw [if_neg (by simp; exact ⟨hg.1, by rw [hg.1, hr.1]; omega⟩)]
          exact hf
        · obtain ⟨g', _, hL⟩ := M.split h'
          exact ⟨_, hL, fun c => absurd c hcnd⟩
      split at h
      · rename_i m g
        rw [M.run_iff'] at h
        obtain ⟨hz, h⟩ := h
        have hz := beqN hz
        subst hz
        exact fin m g rfl (fun c => agg_reads (hv c)) h
      · rw [M.run_iff'] at h
        obtain ⟨hz, h⟩ := h
        have hz := beqN hz
        obtain ⟨h, h1⟩ := isOne_run (be := be) (ga := ga) (O := O) (w := w) h
        exact fin 1 (fun _ => v) hz (fun c => one_reads (h1 _ (hv c)) (hv c)) h
def cBuild (P : Program) (op : Op) (n : Nat) (z : List Cst) (parts : List (Nat × Nat × Opd)) : Bool :=
  match op with
  | .build t ps => chkZero P t z && okPlc P t && Nat.beq z.length n && chkParts P t n ps.toList parts
  | _ => false
theorem v_build {n : Nat} {z : List Cst} {parts : List (Nat × Nat × Opd)} (hs : Slots be ga O w fr a) (hc : cBuild P o.op n z parts = true) (h : (pv hp ga cnd fr (.build n z parts)).run K) : ∃ v, K v ∧ (cnd → Ex P a o w (RA be ga O w) v) := by
  unfold cBuild at hc
  split at hc
  case h_2 => exact absurd hc (by decide)
  rename_i t ps ho
  simp only [Bool.and_eq_true] at hc
  obtain ⟨⟨⟨hz, hpl⟩, hn⟩, hps⟩ := hc
  obtain ⟨i, zv, hi, hzv, hzz, hsz⟩ := chkZero_eq hz
  obtain rfl := beqN hn
  simp only [pv, M.run_bind] at h
  have hr0 : Reads be ga O w z.length (avs z) zv.cells := ⟨by have := chkZ_len hzz; simpa using this, fun j hj => by
    obtain ⟨u, hu, h1, hr, _⟩ := chkZ_RA (be := be) (ga := ga) (O := O) (w := w) hzz j hj
    exact ⟨u, by simpa using hu, h1, hr⟩⟩
  obtain ⟨g, hk, hg⟩ := fillP_run (P := P) (t := t) hs parts ps.toList (avs z) zv.cells _ hps hr0 h
  refine ⟨_, hk, fun c => ?_⟩
  obtain ⟨cs, hf, hcs1, hcs2⟩ := hg c
  have hb : P.built t (ps.map fun (i, x) => (i, a.eval x)).toList = some cs := by
    unfold okPlc at hpl
    unfold plc at hf
    unfold Program.built
    rw [hi, Array.toList_map]
    split at hpl
    · rename_i l e hu
      rw [hu] at hf ⊢
      obtain ⟨ie, hie⟩ := Option.isSome_iff_exists.1 hpl
      simp only [hzv, hie, Option.map_some] at hf ⊢
      exact hf
    · rename_i fs hu
      rw [hu] at hf ⊢
      obtain ⟨pl, hpl⟩ := Option.isSome_iff_exists.1 hpl
      simp only [hzv, hpl] at hf ⊢
      exact hf
    · exact absurd hpl (by decide)
  refine ⟨.agg cs, ?_, cs, rfl, hcs1, hcs2⟩
  have := run_build (P := P) w t (ps.map fun (i, x) => (i, a.eval x)) cs hb
  simp only [execOp, ho, Sem.run_bind, this, Result.andThen_ok, Sem.run_pure]
/-! all -/

def chkP (P : Program) (op : Op) : POp → Bool
  | .mov x => cMov op x
  | .por c b => cPor op c b
  | .pand c b => cPand op c b
  | .build n z parts => cBuild P op n z parts
  | .load1 x => cLoad1 P op x
  | .loadA m x => cLoadA P op m x
  | .loadR m x => cLoadA P op m x
  | .field off x => cField P op off x
  | .ixS size x i => cIxS P op size x i
  | .ixA size len x i => cIxA P op size len x i
  | .nilc x => cNilc op x
  | .bin b _ x y => cBin op b x y
  | .eqA neg ts x y => cEqA P op neg ts x y
  | .eqB neg x y => cEqB P op neg x y
  | .nilS x => cNilS P op x
  | .not x => cUn op .not x
  | .com x => cUn op .xor x
  | .conv _ k x => cConv P op k x
  | .b2s x => cB2s P op x
  | .slT x lo hi => cSlT P op x lo hi
  | .slS size x lo hi => cSlS P op size x lo hi
  | .slA size len x => cSlA P op size len x
  | .idx x i => cIdx P op x i
  | .idxA len x i => cIdxA P op len x i
  | .lenS x => cLen P op false x
  | .lenT x => cLen P op true x
  | .lenK n => cLenK P op n
  | .capS x => cCap P op x
  | .fldA off m x => cFld P op off m true x
  | .fld1 off x => cFld P op off 1 false x
  | .mm mx x xs => cMm op mx x xs
  | .extr i x => cExtr op i x
theorem pv_sound {p : POp} (hs : Slots be ga O w fr a) (he : Ents be ga O w B hp) (hc : chkP P o.op p = true) (h : (pv hp ga cnd fr p).run K) : ∃ v, K v ∧ (cnd → Ex P a o w (RA be ga O w) v) := by
  cases p with
  | mov x => exact v_mov hs hc h
  | por c b => exact v_por hs hc h
  | pand c b => exact v_pand hs hc h
  | build n z parts => exact v_build hs hc h
  | load1 x => exact v_load1 hs he hc h
  | loadA m x => exact v_loadA hs he hc h
  | loadR m x => exact v_loadR hs he hc h
  | field off x => exact v_field hs hc h
  | ixS size x i => exact v_ixS hs hc h
  | ixA size len x i => exact v_ixA hs hc h
  | nilc x => exact v_nilc hs hc h
  | bin b _ x y => exact v_bin hs hc h
  | eqA neg ts x y => exact v_eqA hs hc h
  | eqB neg x y => exact v_eqB hs hc h
  | nilS x => exact v_nilS hs hc h
  | not x => exact v_not hs hc h
  | com x => exact v_com hs hc h
  | conv _ k x => exact v_conv hs hc h
  | b2s x => exact v_b2s hs he hc h
  | slT x lo hi => exact v_slT hs hc h
  | slS size x lo hi => exact v_slS hs hc h
  | slA size len x => exact v_slA hs he hc h
  | idx x i => exact v_idx hs hc h
  | idxA len x i => exact v_idxA hs hc h
  | lenS x => exact v_lenS hs hc h
  | lenT x => exact v_lenT hs hc h
  | lenK n => exact v_lenK hc h
  | capS x => exact v_capS hs hc h
  | fldA off m x => exact v_fldA hs hc h
  | fld1 off x => exact v_fld1 hs hc h
  | mm mx x xs => exact v_mm hs hc h
  | extr i x => exact v_extr hs hc h
end
end Lk
