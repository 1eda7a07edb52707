/-
  The abstract machine, part 1: data, abstract values, what they say of memory, and how that is kept.
-/
import Derived.Calls
import Derived.Below
import Derived.Scope
import Derived.Laws.World
import Derived.Laws.Sem
namespace Lk
open Go Go.RowKit

/-- One cell of data that nobody writes any more. A slice: its element's cells, how many, and cell j of element i. -/
inductive Cell where
  | int (k : IntKind) (n : Int)
  | bool (b : Bool)
  | str (s : List UInt8)
  | sl (size n : Nat) (f : Nat → Nat → Cell)
  | fn (f : Nat)

/-- What a value reads as; O: the blocks that may still be written. -/
def RC (O : Nat → Prop) (w : World) : Cell → Value → Prop
  | .int k n, v => v = .int k n
  | .bool b, v => v = .bool b
  | .str s, v => v = .string ⟨⟨s⟩⟩
  | .fn f, v => v = .func (.func f) #[] #[]
  | .sl size n f, v => (n = 0 ∧ ∃ p, v = .slice p 0 0) ∨ ∃ b o cap, v = .slice (some ⟨b, o, none⟩) n cap ∧ n ≤ cap ∧ cap ≤ 9223372036854775807 ∧
      ∀ i, i < n → ∀ j, j < size → ¬ O b ∧ ∃ u, w.cell? ⟨b, o + i * size + j, none⟩ = some u ∧ RC O w (f i j) u

/-- Abstract values of slots and of own cells. -/
inductive AV where
  | undef
  | c (x : Cell)
  | nil (size : Nat)
  | os (s q size off len : Nat)
  | va (s q col : Nat)
  | ra (s q size row col : Nat)
  | ip (n : Nat) (f : Nat → Cell) (col : Nat)
  | agg (n : Nat) (f : Nat → AV)
  | tup (n : Nat) (f : Nat → AV)
  | may (p : Prop) (v : AV)

/-- What is in an own block: a variable's cells; cell j of element i; dat: pure data. -/
inductive EC where
  | var (c : Nat → AV)
  | dat (c : Nat → Nat → Cell)
  | gen (c : Nat → Nat → AV)

def EC.at : EC → Nat → Nat → AV
  | .var c, _, j => c j
  | .dat c, i, j => .c (c i j)
  | .gen c, i, j => c i j

/-- An own block: an element's cells, how many elements, what is in them; fz: it is written no more; ap: it may be appended to. -/
structure Ent where
  size : Nat
  n : Nat
  c : EC
  fz : Bool
  ap : Bool

/-- gc: how often a site has been named anew; the entry at site s is the one of the latest name. -/
structure St where
  fr : Nat → AV
  hp : Nat → Option Ent
  gc : Nat → Nat

abbrev Nm := Nat → Nat → Option Nat

def RA (be : Nm) (ga : Nat → Nat) (O : Nat → Prop) (w : World) : AV → Value → Prop
  | .undef, _ => True
  | .c x, v => RC O w x v
  | .nil _, v => v = .slice none 0 0
  | .os s q size off len, v => q ≤ ga s ∧ ((be s q = none ∧ off = 0 ∧ len = 0 ∧ v = .slice none 0 0) ∨
      ∃ b o cap cs el fz, be s q = some b ∧ v = .slice (some ⟨b, o, none⟩) len cap ∧ len ≤ cap ∧ cap ≤ 9223372036854775807 ∧ (0 < cap → o = off * size) ∧
        w.heap[b]? = some (.cells cs el fz) ∧ o + cap * size ≤ cs.size)
  | .va s q col, v => q ≤ ga s ∧ ∃ b, be s q = some b ∧ v = .pointer (some ⟨b, col, none⟩)
  | .ra s q size row col, v => q ≤ ga s ∧ ∃ b, be s q = some b ∧ v = .pointer (some ⟨b, row * size + col, none⟩)
  | .ip n f col, v => ∃ b o, v = .pointer (some ⟨b, o + col, none⟩) ∧
      ∀ j, j < n → ¬ O b ∧ ∃ u, w.cell? ⟨b, o + j, none⟩ = some u ∧ RC O w (f j) u
  | .agg n f, v => ∃ cs : Array Value, v = .agg cs ∧ cs.size = n ∧ ∀ j, j < n → ∃ u, cs[j]? = some u ∧ u.oneCell' = true ∧ RA be ga O w (f j) u
  | .tup n f, v => ∃ cs : Array Value, v = .tuple cs ∧ cs.size = n ∧ ∀ j, j < n → ∃ u, cs[j]? = some u ∧ RA be ga O w (f j) u
  | .may p x, v => (p → RA be ga O w x v) ∧ (¬ p → v = Go.undef)

/-- The cells of an own block. -/
structure Row (be : Nm) (ga : Nat → Nat) (O : Nat → Prop) (w : World) (e : Ent) (cs : Array Value) (fz : Nat × Nat) : Prop where
  fit : e.n * e.size ≤ cs.size
  clean : ∀ o, o < cs.size → ¬ (fz.1 ≤ o ∧ o < fz.2)
  plain : e.ap = true → fz = (0, 0)
  one : ∀ (i : Nat) (u : Value), cs[i]? = some u → u.oneCell' = true
  cont : ∀ i, i < e.n → ∀ j, j < e.size → ∃ u, cs[i * e.size + j]? = some u ∧ RA be ga O w (e.c.at i j) u

def EntOk (be : Nm) (ga : Nat → Nat) (O : Nat → Prop) (w : World) (B : Nat) (s : Nat) (e : Ent) : Prop :=
  (be s (ga s) = none ∧ e.n = 0) ∨ ∃ b cs el fz, be s (ga s) = some b ∧ B ≤ b ∧ w.heap[b]? = some (.cells cs el fz) ∧ Row be ga O w e cs fz

/-- The blocks that may be written: the caller's, and the own ones. -/
def own (O : Nat → Prop) (be : Nm) (st : St) (b : Nat) : Prop :=
  O b ∨ ∃ s e, st.hp s = some e ∧ e.fz = false ∧ be s (st.gc s) = some b

/-- The concrete state is one of those that st speaks of. W: the world in which the call began; N: how many slots. -/
structure Rel (O : Nat → Prop) (W : World) (N : Nat) (st : St) (a : Act) (w : World) (be : Nm) : Prop where
  size : a.tmps.size = N
  defers : a.defers = []
  below : Below W.heap.size W w
  outer : ∀ b, O b → b < W.heap.size
  names : ∀ s q b, be s q = some b → b < w.heap.size
  slot : ∀ k, RA be st.gc (own O be st) w (st.fr k) (a.tmps.getD k Go.undef)
  ent : ∀ s e, st.hp s = some e → EntOk be st.gc (own O be st) w W.heap.size s e
  dist : ∀ s s' e e' b, st.hp s = some e → st.hp s' = some e' → be s (st.gc s) = some b → be s' (st.gc s') = some b → e.fz = false → s = s'

/-! ### Keeping -/

theorem RC.keep {O O' : Nat → Prop} {w w' : World} (hO : ∀ b, b < w.heap.size → O' b → O b)
    (hw : ∀ b o u, ¬ O b → w.cell? ⟨b, o, none⟩ = some u → w'.cell? ⟨b, o, none⟩ = some u) :
    ∀ {x : Cell} (v : Value), RC O w x v → RC O' w' x v := by
  intro x
  induction x with
  | int k n => exact fun _ h => h
  | bool b => exact fun _ h => h
  | str s => exact fun _ h => h
  | fn f => exact fun _ h => h
  | sl size n f ih =>
    intro v h
    rcases h with h | ⟨b, o, cap, hv, hn, hc, h⟩
    · exact Or.inl h
    · refine Or.inr ⟨b, o, cap, hv, hn, hc, fun i hi j hj => ?_⟩
      obtain ⟨ho, u, hu, hr⟩ := h i hi j hj
      exact ⟨fun h' => ho (hO b (World.block_lt_of_cell? _ _ hu) h'), u, hw b _ u ho hu, ih i j u hr⟩

/-- What a step must leave alone for a reading to stay. -/
structure Keeps (be : Nm) (ga : Nat → Nat) (O : Nat → Prop) (w : World) (be' : Nm) (ga' : Nat → Nat) (O' : Nat → Prop) (w' : World) : Prop where
  hga : ∀ s, ga s ≤ ga' s
  hbe : ∀ s q, q ≤ ga s → be' s q = be s q
  hO : ∀ b, b < w.heap.size → O' b → O b
  cell : ∀ b o u, ¬ O b → w.cell? ⟨b, o, none⟩ = some u → w'.cell? ⟨b, o, none⟩ = some u
  shape : ∀ (b : Nat) cs el fz, w.heap[b]? = some (.cells cs el fz) → ∃ cs' el' fz', w'.heap[b]? = some (.cells cs' el' fz') ∧ cs'.size = cs.size

theorem Keeps.rc {be be' : Nm} {ga ga' : Nat → Nat} {O O' : Nat → Prop} {w w' : World} (k : Keeps be ga O w be' ga' O' w') {x : Cell} {v : Value}
    (h : RC O w x v) : RC O' w' x v := RC.keep k.hO k.cell v h

theorem Keeps.ra {be be' : Nm} {ga ga' : Nat → Nat} {O O' : Nat → Prop} {w w' : World} (k : Keeps be ga O w be' ga' O' w') :
    ∀ {x : AV} (v : Value), RA be ga O w x v → RA be' ga' O' w' x v := by
  intro x
  induction x with
  | undef => exact fun _ _ => trivial
  | c x => exact fun _ h => k.rc h
  | nil => exact fun _ h => h
  | os s q size off len =>
    intro v ⟨hq, h⟩
    refine ⟨Nat.le_trans hq (k.hga s), ?_⟩
    rcases h with ⟨hb, h⟩ | ⟨b, o, cap, cs, el, fz, hb, hv, hl, hx, ho, hh, hc⟩
    · exact Or.inl ⟨(k.hbe s q hq).trans hb, h⟩
    · obtain ⟨cs', el', fz', hh', hs⟩ := k.shape b cs el fz hh
      exact Or.inr ⟨b, o, cap, cs', el', fz', (k.hbe s q hq).trans hb, hv, hl, hx, ho, hh', hs ▸ hc⟩
  | va s q col =>
    intro v ⟨hq, b, hb, hv⟩
    exact ⟨Nat.le_trans hq (k.hga s), b, (k.hbe s q hq).trans hb, hv⟩
  | ra s q size row col =>
    intro v ⟨hq, b, hb, hv⟩
    exact ⟨Nat.le_trans hq (k.hga s), b, (k.hbe s q hq).trans hb, hv⟩
  | ip n f col =>
    intro v ⟨b, o, hv, h⟩
    refine ⟨b, o, hv, fun j hj => ?_⟩
    obtain ⟨ho, u, hu, hr⟩ := h j hj
    exact ⟨fun h' => ho (k.hO b (World.block_lt_of_cell? _ _ hu) h'), u, k.cell b _ u ho hu, k.rc hr⟩
  | agg n f ih =>
    intro v ⟨cs, hv, hn, h⟩
    refine ⟨cs, hv, hn, fun j hj => ?_⟩
    obtain ⟨u, hu, h1, hr⟩ := h j hj
    exact ⟨u, hu, h1, ih j u hr⟩
  | tup n f ih =>
    intro v ⟨cs, hv, hn, h⟩
    refine ⟨cs, hv, hn, fun j hj => ?_⟩
    obtain ⟨u, hu, hr⟩ := h j hj
    exact ⟨u, hu, ih j u hr⟩
  | may p x ih => exact fun v ⟨h1, h2⟩ => ⟨fun hp => ih v (h1 hp), h2⟩

theorem Keeps.refl (be : Nm) (ga : Nat → Nat) (O : Nat → Prop) (w : World) : Keeps be ga O w be ga O w :=
  ⟨fun _ => Nat.le_refl _, fun _ _ _ => rfl, fun _ _ h => h, fun _ _ _ _ h => h, fun _ cs el fz h => ⟨cs, el, fz, h, rfl⟩⟩

/-- The own blocks are none of those that may be written, after some are written no more: less is own. -/
theorem Keeps.less {be : Nm} {ga : Nat → Nat} {O O' : Nat → Prop} {w : World} (h : ∀ b, O' b → O b) : Keeps be ga O w be ga O' w :=
  { Keeps.refl be ga O w with hO := fun b _ hb => h b hb }

theorem heap_lt {w : World} {b : Nat} {o : Obj} (h : w.heap[b]? = some o) : b < w.heap.size := by
  rcases Nat.lt_or_ge b w.heap.size with h' | h'
  · exact h'
  · simp [Array.getElem?_eq_none h'] at h

theorem Row.keep {be be' : Nm} {ga ga' : Nat → Nat} {O O' : Nat → Prop} {w w' : World} (k : Keeps be ga O w be' ga' O' w') {e : Ent} {cs : Array Value} {fz : Nat × Nat}
    (h : Row be ga O w e cs fz) : Row be' ga' O' w' e cs fz :=
  ⟨h.fit, h.clean, h.plain, h.one, fun i hi j hj => let ⟨u, hu, hr⟩ := h.cont i hi j hj; ⟨u, hu, k.ra u hr⟩⟩

/-- An entry stays, if its name and its block do. -/
theorem EntOk.keep {be be' : Nm} {ga ga' : Nat → Nat} {O O' : Nat → Prop} {w w' : World} (k : Keeps be ga O w be' ga' O' w') {B s : Nat} {e : Ent}
    (hs : ga' s = ga s) (hb : ∀ b, be s (ga s) = some b → B ≤ b → w'.heap[b]? = w.heap[b]?) (h : EntOk be ga O w B s e) : EntOk be' ga' O' w' B s e := by
  have hn : be' s (ga' s) = be s (ga s) := by rw [hs]; exact k.hbe s _ (Nat.le_refl _)
  rcases h with ⟨h1, h2⟩ | ⟨b, cs, el, fz, h1, h2, h3, h4⟩
  · exact Or.inl ⟨hn.trans h1, h2⟩
  · exact Or.inr ⟨b, cs, el, fz, hn.trans h1, h2, (hb b h1 h2).trans h3, h4.keep k⟩

/-- The world has grown: nothing that was there has changed. -/
theorem Keeps.grown {be : Nm} {ga : Nat → Nat} {O : Nat → Prop} {w w' : World} (h : Below w.heap.size w w') : Keeps be ga O w be ga O w' :=
  { Keeps.refl be ga O w with
    cell := fun b o u _ hu => by rw [h.cell (p := ⟨b, o, none⟩) (World.block_lt_of_cell? _ _ hu)]; exact hu
    shape := fun b cs el fz hb => ⟨cs, el, fz, (h.block b (heap_lt hb)).trans hb, rfl⟩ }

end Lk
