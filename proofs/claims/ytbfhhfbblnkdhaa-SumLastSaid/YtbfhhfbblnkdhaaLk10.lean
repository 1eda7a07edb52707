/-
  The abstract machine, part 10: operations that change memory: checked, and sound.
-/
import Derived.Test.YtbfhhfbblnkdhaaLk9
import Derived.Laws.IdiomStrings
namespace Lk
open Go Go.RowKit
section
variable {P : Program} {O : Nat → Prop} {W : World} {N : Nat} {fr : Nat → AV} {hp : Nat → Option Ent} {gc : Nat → Nat} {a : Act} {w : World} {be : Nm} {o : Oper} {d : Nat} {L : Dl → Prop}

/-- The operation ends with a value that reads as the change says, in a state of which the changed state speaks. -/
def Ef (P : Program) (O : Nat → Prop) (W : World) (N : Nat) (fr : Nat → AV) (hp : Nat → Option Ent) (gc : Nat → Nat) (a : Act) (o : Oper) (w : World) (δ : Dl) : Prop :=
  ∃ w' u be', (execOp a.eval o).run P w = .ok (.value u) w' ∧ Rel O W N ⟨fr, putH δ.hs hp, putG δ.gs gc⟩ a w' be' ∧
    RA be' (putG δ.gs gc) (own O be' ⟨fr, putH δ.hs hp, putG δ.gs gc⟩) w' δ.v u

/-- .. with no value. -/
def Es (P : Program) (O : Nat → Prop) (W : World) (N : Nat) (fr : Nat → AV) (hp : Nat → Option Ent) (gc : Nat → Nat) (a : Act) (o : Oper) (w : World) (δ : Dl) : Prop :=
  δ.gs = [] ∧ ∃ w', (execOp a.eval o).run P w = .ok .skip w' ∧ Rel O W N ⟨fr, putH δ.hs hp, gc⟩ a w' be

theorem below_alloc (w : World) (ob : Obj) : Below w.heap.size w (w.alloc ob) := (Below.refl _ _).alloc (Nat.le_refl _) _
theorem below_drew_alloc (w : World) (ob : Obj) : Below w.heap.size w (w.drew.alloc ob) := ((Below.refl _ _).drew).alloc (Nat.le_refl _) _

theorem heap_alloc_new' (w : World) (ob : Obj) : (w.alloc ob).heap[w.heap.size]? = some ob := heap_alloc_new w ob

/-- A new variable. -/
theorem ef_var (h : Rel O W N ⟨fr, hp, gc⟩ a w be) {size : Nat} {c : Nat → AV} {cs : Array Value} {el : TypeId} (hr : Reads be gc (own O be ⟨fr, hp, gc⟩) w size c cs)
    (hrun : (execOp a.eval o).run P w = .ok (.value (.pointer (some ⟨w.heap.size, 0, none⟩))) (w.alloc (.cells cs el))) :
    Ef P O W N fr hp gc a o w (.var ⟨fr, hp, gc⟩ d size c) := by
  have row : Row be gc (own O be ⟨fr, hp, gc⟩) w ⟨size, 1, .var c, false, true⟩ cs (0, 0) := by
    refine ⟨by simp only; rw [hr.1]; omega, fun k _ h => by omega, fun _ => rfl, fun i u hu => ?_, fun i hi j hj => ?_⟩
    · have hi : i < size := by
        rcases Nat.lt_or_ge i size with h' | h'
        · exact h'
        · rw [Array.getElem?_eq_none (by rw [hr.1]; exact h')] at hu; exact absurd hu (by simp)
      obtain ⟨u', hu', h1, _⟩ := hr.2 i hi
      rw [hu] at hu'
      rw [Option.some.inj hu']; exact h1
    · simp only at hi hj ⊢
      obtain ⟨u, hu, _, hru⟩ := hr.2 j hj
      refine ⟨u, ?_, hru⟩
      have : i = 0 := by omega
      subst this
      simpa using hu
  obtain ⟨be', hrel, hb, k⟩ := h.new1 (d := d) (below_alloc w (.cells cs el)) (Nat.le_refl _) (heap_alloc_new' w _) row
  exact ⟨_, _, be', hrun, hrel, by show gc d + 1 ≤ bump gc d d; rw [bump_same]; exact Nat.le_refl _, _, hb, rfl⟩

/-- A new row of elements. -/
theorem ef_row (h : Rel O W N ⟨fr, hp, gc⟩ a w be) {size n : Nat} {c : EC} {ap : Bool} {cs : Array Value} {el : TypeId} {fz : Nat × Nat} {w' : World} {v : AV} {u : Value} (hb : Below w.heap.size w w')
    (hh : w'.heap[w.heap.size]? = some (.cells cs el fz)) (row : Row be gc (own O be ⟨fr, hp, gc⟩) w ⟨size, n, c, false, ap⟩ cs fz)
    (hrun : (execOp a.eval o).run P w = .ok (.value u) w')
    (hv : ∀ be', be' d (gc d + 1) = some w.heap.size → RA be' (bump gc d) (own O be' ⟨fr, setH hp d ⟨size, n, c, false, ap⟩, bump gc d⟩) w' v u) :
    Ef P O W N fr hp gc a o w (.new d v size n c ap) := by
  obtain ⟨be', hrel, hb', k⟩ := h.new1 (d := d) hb (Nat.le_refl _) hh row
  exact ⟨_, _, be', hrun, hrel, hv be' hb'⟩

theorem ra_os_new {be' : Nm} {gc' : Nat → Nat} {Q : Nat → Prop} {w' : World} {q b size len cap : Nat} {cs : Array Value} {el : TypeId} {fz : Nat × Nat} (hq : q ≤ gc' d) (hb' : be' d q = some b) (hh : w'.heap[b]? = some (.cells cs el fz))
    (h1 : len ≤ cap) (h2 : cap ≤ 9223372036854775807) (h3 : cap * size ≤ cs.size) : RA be' gc' Q w' (.os d q size 0 len) (.slice (some ⟨b, 0, none⟩) len cap) :=
  ⟨hq, .inr ⟨b, 0, cap, cs, el, fz, hb', rfl, h1, h2, fun _ => by omega, hh, by omega⟩⟩

def cAlloc (P : Program) (op : Op) (size : Nat) (z : List Cst) : Bool :=
  match op with
  | .alloc t => chkZero P t z && Nat.beq z.length size
  | _ => false

theorem zero_reads {t : TypeId} {z : List Cst} (hz : chkZero P t z = true) (be : Nm) (ga : Nat → Nat) (Q : Nat → Prop) (w : World) : ∃ i v, P.info? t = some i ∧ i.zero = some v ∧ i.size = z.length ∧ Reads be ga Q w z.length (avs z) v.cells := by
  obtain ⟨i, zv, hi, hzv, hzz, hsz⟩ := chkZero_eq hz
  refine ⟨i, zv, hi, hzv, hsz, by have := chkZ_len hzz; simpa using this, fun j hj => ?_⟩
  obtain ⟨u, hu, h1, hr, _⟩ := chkZ_RA (be := be) (ga := ga) (O := Q) (w := w) hzz j hj
  exact ⟨u, by simpa using hu, h1, hr⟩

theorem e_alloc (h : Rel O W N ⟨fr, hp, gc⟩ a w be) {size : Nat} {z : List Cst} (hc : cAlloc P o.op size z = true) (hl : (eff (.alloc size z) d True ⟨fr, hp, gc⟩).run L) :
    ∃ δ, L δ ∧ Ef P O W N fr hp gc a o w δ := by
  unfold cAlloc at hc
  split at hc
  case h_2 => exact absurd hc (by decide)
  rename_i t ho
  simp only [Bool.and_eq_true] at hc
  obtain rfl := beqN hc.2
  obtain ⟨i, zv, hi, hz, hsz, hr⟩ := zero_reads hc.1 be gc (own O be ⟨fr, hp, gc⟩) w
  refine ⟨_, hl, ef_var h (el := t) hr ?_⟩
  simp [execOp, ho, Instr.alloc, zeroValue, typeInfo, hi, hz, newVar, newRow]

/-- Constants over and over. -/
def rep : Nat → List Cst → List Cst
  | 0, _ => []
  | n + 1, z => z ++ rep n z

theorem cells_app : ∀ (z l : List Cst) (j : Nat), cells (z ++ l) j = if j < z.length then cells z j else cells l (j - z.length)
  | [], l, j => by simp
  | c :: z, l, 0 => rfl
  | c :: z, l, j + 1 => by
    have := cells_app z l j
    simp only [List.cons_append, cells, List.length_cons]
    rw [this]
    by_cases h : j < z.length
    · rw [if_pos h, if_pos (by omega)]
    · rw [if_neg h, if_neg (by omega)]
      congr 1; omega
theorem rep_len : ∀ (n : Nat) (z : List Cst), (rep n z).length = n * z.length
  | 0, z => by simp [rep]
  | n + 1, z => by simp [rep, rep_len n z, Nat.add_mul]; omega
theorem cells_rep : ∀ (n : Nat) (z : List Cst) (i j : Nat), i < n → j < z.length → cells (rep n z) (i * z.length + j) = cells z j
  | 0, z, i, j, hi, _ => absurd hi (by omega)
  | n + 1, z, 0, j, _, hj => by rw [rep, cells_app, if_pos (by omega)]; congr 1; omega
  | n + 1, z, i + 1, j, hi, hj => by
    rw [rep, cells_app, if_neg (by rw [Nat.add_mul]; omega)]
    rw [show (i + 1) * z.length + j - z.length = i * z.length + j by rw [Nat.add_mul]; omega]
    exact cells_rep n z i j (by omega) hj

def cAllocR (P : Program) (op : Op) (rows size : Nat) (z : List Cst) : Bool :=
  match op with
  | .alloc t => chkZero P t (rep rows z) && Nat.beq z.length size
  | _ => false

theorem e_allocR (h : Rel O W N ⟨fr, hp, gc⟩ a w be) {rows size : Nat} {z : List Cst} (hc : cAllocR P o.op rows size z = true) (hl : (eff (.allocR rows size z) d True ⟨fr, hp, gc⟩).run L) :
    ∃ δ, L δ ∧ Ef P O W N fr hp gc a o w δ := by
  unfold cAllocR at hc
  split at hc
  case h_2 => exact absurd hc (by decide)
  rename_i t ho
  simp only [Bool.and_eq_true] at hc
  obtain rfl := beqN hc.2
  obtain ⟨i, zv, hi, hz, hzz, hsz⟩ := chkZero_eq hc.1
  have hlen := chkZ_len hzz
  rw [rep_len] at hlen
  have hget : ∀ k, k < rows * z.length → ∃ u, zv.cells[k]? = some u ∧ u.oneCell' = true ∧ RC (own O be ⟨fr, hp, gc⟩) w (cells (rep rows z) k) u := fun k hk => by
    obtain ⟨u, hu, h1, _, hr⟩ := chkZ_RA (be := be) (ga := gc) (O := own O be ⟨fr, hp, gc⟩) (w := w) hzz k (by rw [rep_len]; exact hk)
    exact ⟨u, by simpa using hu, h1, hr⟩
  have hlen' : zv.cells.size = rows * z.length := by simpa using hlen
  have row : Row be gc (own O be ⟨fr, hp, gc⟩) w ⟨z.length, rows, .gen fun _ j => .c (cells z j), false, true⟩ zv.cells (0, 0) := by
    refine ⟨by simp only; omega, fun k _ h => by omega, fun _ => rfl, fun k u hu => ?_, fun i hi j hj => ?_⟩
    · have hk : k < rows * z.length := by
        rcases Nat.lt_or_ge k (rows * z.length) with h' | h'
        · exact h'
        · rw [Array.getElem?_eq_none (by omega)] at hu; exact absurd hu (by simp)
      obtain ⟨u', hu', h1, _⟩ := hget k hk
      rw [hu] at hu'
      rw [Option.some.inj hu']; exact h1
    · simp only at hi hj ⊢
      have hk : i * z.length + j < rows * z.length := by
        have : (i + 1) * z.length ≤ rows * z.length := Nat.mul_le_mul_right _ hi
        rw [Nat.add_mul, Nat.one_mul] at this
        omega
      obtain ⟨u, hu, _, hr⟩ := hget _ hk
      rw [cells_rep rows z i j hi hj] at hr
      exact ⟨u, hu, hr⟩
  refine ⟨_, hl, ef_row h (below_alloc w (.cells zv.cells t)) (heap_alloc_new' w _) row ?_ fun be' hb => ⟨by rw [bump_same]; exact Nat.le_refl _, _, hb, rfl⟩⟩
  simp [execOp, ho, Instr.alloc, zeroValue, typeInfo, hi, hz, newVar, newRow]

def cBox (op : Op) (x : Opd) : Bool :=
  match op with
  | .box _ x' => chkX x' x
  | _ => false

theorem run_box {u : Value} (h : (∃ t x', o.op = .box t x' ∧ a.eval x' = u)) : ∃ t, (execOp a.eval o).run P w = .ok (.value (.pointer (some ⟨w.heap.size, 0, none⟩))) (w.alloc (.cells u.cells t)) := by
  obtain ⟨t, x', ho, rfl⟩ := h
  exact ⟨t, by simp [execOp, ho, Instr.box, newVar, newRow]⟩

theorem e_box (h : Rel O W N ⟨fr, hp, gc⟩ a w be) {size : Nat} {x : Opd} (hc : cBox o.op x = true) (hl : (eff (.box size x) d True ⟨fr, hp, gc⟩).run L) :
    ∃ δ, L δ ∧ Ef P O W N fr hp gc a o w δ := by
  unfold cBox at hc
  split at hc
  case h_2 => exact absurd hc (by decide)
  rename_i t x' ho
  obtain ⟨t', hrun⟩ := run_box (P := P) (w := w) ⟨t, x', ho, rfl⟩
  simp only [eff, M.run_bind] at hl
  replace hl := rd_sound h.slot hc hl
  obtain ⟨v, hl, hv⟩ := hl
  replace hv := hv trivial
  split at hl
  · rename_i n f
    rw [M.run_iff'] at hl
    obtain ⟨hz, hl⟩ := hl
    obtain rfl := beqN hz
    exact ⟨_, hl, ef_var h (agg_reads hv) hrun⟩
  · rw [M.run_iff'] at hl
    obtain ⟨hz, hl⟩ := hl
    obtain ⟨hl, h1⟩ := isOne_run (be := be) (ga := gc) (O := own O be ⟨fr, hp, gc⟩) (w := w) hl
    exact ⟨_, hl, ef_var h (one_reads (h1 _ hv) hv) hrun⟩

theorem e_boxR (h : Rel O W N ⟨fr, hp, gc⟩ a w be) {n : Nat} {x : Opd} (hc : cBox o.op x = true) (hl : (eff (.boxR n x) d True ⟨fr, hp, gc⟩).run L) :
    ∃ δ, L δ ∧ Ef P O W N fr hp gc a o w δ := by
  unfold cBox at hc
  split at hc
  case h_2 => exact absurd hc (by decide)
  rename_i t x' ho
  obtain ⟨t', hrun⟩ := run_box (P := P) (w := w) ⟨t, x', ho, rfl⟩
  simp only [eff, M.run_bind] at hl
  replace hl := rd_sound h.slot hc hl
  obtain ⟨v, hl, hv⟩ := hl
  replace hv := hv trivial
  split at hl
  · rename_i m f
    rw [M.run_iff'] at hl
    obtain ⟨hz, hl⟩ := hl
    obtain rfl := beqN hz
    obtain ⟨hs, hr⟩ := agg_reads hv
    have row : Row be gc (own O be ⟨fr, hp, gc⟩) w ⟨1, m, .gen fun i _ => f i, false, true⟩ (a.eval x').cells (0, 0) := by
      refine ⟨by simp only; omega, fun k _ h => by omega, fun _ => rfl, fun k u hu => ?_, fun i hi j hj => ?_⟩
      · have hk : k < m := by
          rcases Nat.lt_or_ge k m with h' | h'
          · exact h'
          · rw [Array.getElem?_eq_none (by omega)] at hu; exact absurd hu (by simp)
        obtain ⟨u', hu', h1, _⟩ := hr k hk
        rw [hu] at hu'
        rw [Option.some.inj hu']; exact h1
      · simp only at hi hj ⊢
        obtain ⟨u, hu, _, hru⟩ := hr i hi
        refine ⟨u, ?_, hru⟩
        rw [show i * 1 + j = i by omega]; exact hu
    exact ⟨_, hl, ef_row h (below_alloc w (.cells (a.eval x').cells t')) (heap_alloc_new' w _) row hrun fun be' hb => ⟨by rw [bump_same]; exact Nat.le_refl _, _, hb, by simp⟩⟩
  · exact hl.elim

/-! make -/

def tyB (P : Program) (t : TypeId) (bytes : Nat) : Bool :=
  match P.info? t with
  | some i => Nat.beq i.bytes bytes
  | none => false

def sameX : Operand → Operand → Bool
  | .tmp i, .tmp j => Nat.beq i j
  | .const (.int k n), .const (.int k' n') => isK k k' && decide (n = n')
  | _, _ => false
theorem sameX_eq {x y : Operand} (h : sameX x y = true) (a : Act) : a.eval x = a.eval y := by
  unfold sameX at h
  split at h
  · rw [beqN h]
  · simp only [Bool.and_eq_true, decide_eq_true_eq] at h
    rw [isK_eq h.1, h.2]
  · exact absurd h (by decide)

def cMk (P : Program) (op : Op) (size bytes : Nat) (z : List Cst) (n : Opd) : Bool :=
  match op with
  | .makeSlice t l c => (match slE P t with
    | some e => chkZero P e z && tyB P e bytes
    | none => false) && Nat.beq z.length size && Nat.ble 1 size && chkX l n && sameX c l
  | _ => false

theorem made_get {z : Array Value} {n k : Nat} (hk : k < n) (hz : 0 < z.size) : (madeCells z n)[k]? = z[k % z.size]? := by
  have hm : k % z.size < z.size := Nat.mod_lt _ hz
  simp [madeCells, hk, Array.getElem?_eq_getElem hm, getElem!_pos z (k % z.size) hm]

/-- A row whose elements are all alike. -/
theorem row_made {Q : Nat → Prop} {z : List Cst} {zv : Value} (hzz : chkZ zv.cells.toList z = true) (hpos : 0 < z.length) (n m : Nat) (hm : n ≤ m) (cs : Array Value) (hcs : cs = madeCells zv.cells (m * z.length)) (ap : Bool) :
    Row be gc Q w ⟨z.length, n, .dat fun _ j => cells z j, false, ap⟩ cs (0, 0) := by
  have hlen : zv.cells.size = z.length := by have := chkZ_len hzz; simpa using this
  have hsz : cs.size = m * z.length := by rw [hcs, size_madeCells]
  have hget : ∀ k, k < m * z.length → ∃ u, cs[k]? = some u ∧ u.oneCell' = true ∧ RC Q w (cells z (k % z.length)) u := fun k hk => by
    obtain ⟨u, hu, h1, _, hr⟩ := chkZ_RA (be := be) (ga := gc) (O := Q) (w := w) hzz (k % z.length) (Nat.mod_lt _ hpos)
    refine ⟨u, ?_, h1, hr⟩
    rw [hcs, made_get hk (by omega), hlen]
    simpa using hu
  refine ⟨?_, fun k _ h => by omega, fun _ => rfl, fun k u hu => ?_, fun i hi j hj => ?_⟩
  · simp only; rw [hsz]; exact Nat.mul_le_mul_right _ hm
  · have hk : k < m * z.length := by
      rcases Nat.lt_or_ge k (m * z.length) with h' | h'
      · exact h'
      · rw [Array.getElem?_eq_none (by omega)] at hu; exact absurd hu (by simp)
    obtain ⟨u', hu', h1, _⟩ := hget k hk
    rw [hu] at hu'
    rw [Option.some.inj hu']; exact h1
  · simp only at hi hj ⊢
    have hk : i * z.length + j < m * z.length := by
      have : (i + 1) * z.length ≤ m * z.length := Nat.mul_le_mul_right _ (by omega)
      rw [Nat.add_mul, Nat.one_mul] at this
      omega
    obtain ⟨u, hu, _, hr⟩ := hget _ hk
    rw [Nat.mul_add_mod_of_lt' hj] at hr
    exact ⟨u, hu, hr⟩
where
  Nat.mul_add_mod_of_lt' {i j n : Nat} (h : j < n) : (i * n + j) % n = j := by
    rw [Nat.mul_comm, Nat.mul_add_mod, Nat.mod_eq_of_lt h]

theorem e_mk (h : Rel O W N ⟨fr, hp, gc⟩ a w be) {size bytes : Nat} {z : List Cst} {n : Opd} (hc : cMk P o.op size bytes z n = true) (hl : (eff (.mk size bytes z n) d True ⟨fr, hp, gc⟩).run L) :
    ∃ δ, L δ ∧ Ef P O W N fr hp gc a o w δ := by
  unfold cMk at hc
  split at hc
  case h_2 => exact absurd hc (by decide)
  rename_i t l c ho
  simp only [Bool.and_eq_true] at hc
  obtain ⟨⟨⟨⟨hsl, hz⟩, hpos⟩, hxl⟩, hxc⟩ := hc
  obtain rfl := beqN hz
  have hpos := Nat.le_of_ble_eq_true hpos
  split at hsl
  case h_2 => exact absurd hsl (by decide)
  rename_i e he
  have hu := slE_eq he
  simp only [Bool.and_eq_true] at hsl
  obtain ⟨hz, hby⟩ := hsl
  obtain ⟨i, zv, hi, hzv, hzz, hsz⟩ := chkZero_eq hz
  unfold tyB at hby
  rw [hi] at hby
  have hby := beqN hby
  simp only [eff, M.run_bind] at hl
  replace hl := rd_sound h.slot hxl hl
  obtain ⟨v, hl, hv⟩ := hl
  replace hv := hv trivial
  replace hl := asI_run hl
  obtain ⟨k, m, rfl, hl⟩ := hl
  have e1 : a.eval l = .int k m := hv
  have e2 : a.eval c = .int k m := (sameX_eq hxc a).trans e1
  obtain ⟨h0, h1, h2⟩ := hl.l
  have hb : (i.bytes : Int) * m ≤ 281474976710656 := by rw [hby, Int.mul_comm]; omega
  have hrun := run_make (P := P) w t e i zv hu hi hzv k k m m h0 (Int.le_refl _) hb (by omega)
  rw [hsz] at hrun
  refine ⟨_, hl.r, ef_row h (below_alloc w (.cells (madeCells zv.cells (m.toNat * z.length)) e)) (heap_alloc_new' w _) (row_made hzz hpos m.toNat m.toNat (Nat.le_refl _) _ rfl true) ?_ fun be' hb' =>
    ra_os_new (by rw [bump_same]; exact Nat.le_refl _) hb' (heap_alloc_new' w _) (Nat.le_refl _) (by omega) (by rw [size_madeCells]; exact Nat.le_refl _)⟩
  simp only [execOp, ho, e1, e2, Sem.run_bind, hrun, Result.andThen_ok, Sem.run_pure]

/-! bytes of a string -/

def cS2b (P : Program) (op : Op) (x : Opd) : Bool :=
  match op with
  | .convert s t x' => (match slE P t with
    | some e => isU8T P e
    | none => false) && isStrT P s && chkX x' x
  | _ => false

theorem e_s2b (h : Rel O W N ⟨fr, hp, gc⟩ a w be) {x : Opd} (hc : cS2b P o.op x = true) (hl : (eff (.s2b x) d True ⟨fr, hp, gc⟩).run L) :
    ∃ δ, L δ ∧ Ef P O W N fr hp gc a o w δ := by
  unfold cS2b at hc
  split at hc
  case h_2 => exact absurd hc (by decide)
  rename_i s t x' ho
  simp only [Bool.and_eq_true] at hc
  obtain ⟨⟨hsl, hs⟩, hx⟩ := hc
  split at hsl
  case h_2 => exact absurd hsl (by decide)
  rename_i e he
  have hu := slE_eq he
  have he := isU8T_eq hsl
  have hds := isStrT_eq hs
  simp only [eff, M.run_bind] at hl
  replace hl := rd_sound h.slot hx hl
  obtain ⟨v, hl, hv⟩ := hl
  replace hv := hv trivial
  replace hl := asS_run hl
  obtain ⟨l, rfl, hl⟩ := hl
  have e1 : a.eval x' = .string ⟨⟨l⟩⟩ := hv
  have hlen := hl.l
  have hrun := run_bytes_of_string (P := P) w s t e ⟨⟨l⟩⟩ hds hu he
  rw [bytes_size] at hrun
  have hcap : l.length ≤ grownCap w l.length 0 e := grownCap_ge w _ _ e
  have hcapM : grownCap w l.length 0 e ≤ maxLen := grownCap_le_maxLen w _ _ e (by unfold maxLen; omega)
  generalize grownCap w l.length 0 e = cap at *
  have hcs : (bytesRow ⟨⟨l⟩⟩ cap).size = cap := by simp [bytesRow, bytes_size]; omega
  have hget : ∀ k, k < l.length → (bytesRow ⟨⟨l⟩⟩ cap)[k]? = some (.int .u8 (l.getD k 0).toNat) := fun k hk => by
    unfold bytesRow
    rw [Array.getElem?_append_left (by simpa using hk)]
    simp [List.getElem?_eq_getElem hk, List.getD_eq_getElem?_getD]
  have hone : ∀ (k : Nat) (u : Value), (bytesRow ⟨⟨l⟩⟩ cap)[k]? = some u → u.oneCell' = true := fun k u hu => by
    unfold bytesRow at hu
    rw [Array.getElem?_append] at hu
    split at hu
    · simp at hu; obtain ⟨b, _, rfl⟩ := hu; rfl
    · rw [Array.getElem?_replicate] at hu
      split at hu
      · rw [← Option.some.inj hu]; rfl
      · exact absurd hu (by simp)
  rw [hcs] at hrun
  generalize bytesRow ⟨⟨l⟩⟩ cap = cs at *
  have row : Row be gc (own O be ⟨fr, hp, gc⟩) w ⟨1, l.length, .dat fun i _ => .int .u8 (l.getD i 0).toNat, false, false⟩ cs (cap, cap + 1) := by
    refine ⟨by simp only; omega, fun k hk h => by omega, fun h => absurd h (by simp), hone, fun i hi j hj => ?_⟩
    simp only at hi hj ⊢
    exact ⟨_, by rw [show i * 1 + j = i by omega]; exact hget i hi, rfl⟩
  have hnew : (w.drew.alloc (.cells cs e (cap, cap + 1))).heap[w.heap.size]? = some (.cells cs e (cap, cap + 1)) := heap_alloc_new w.drew _
  refine ⟨_, hl.r, ef_row h (below_drew_alloc w _) hnew row ?_ fun be' hb' => ra_os_new (by rw [bump_same]; exact Nat.le_refl _) hb' hnew hcap (by unfold maxLen at hcapM; omega) (by rw [hcs]; omega)⟩
  simp only [execOp, ho, e1, Sem.run_bind, hrun, Result.andThen_ok, Sem.run_pure]

end
end Lk
