/-
  The abstract machine, part 4: operations that make a value: checked, and sound.
-/
import Derived.Test.YtbfhhfbblnkdhaaLk3
import Derived.IntWalk
namespace Lk
open Go Go.RowKit

theorem wrap_rng {k : IntKind} {n : Int} (h : rng k n) : k.wrap n = n := by
  cases k
  · exact IntWalk.i8_in n h
  · exact IntWalk.i16_in n h
  · exact IntWalk.i32_in n h
  · exact IntWalk.i64_in n h
  · exact IntWalk.u8_in n h
  · exact IntWalk.u16_in n h
  · exact IntWalk.u32_in n h
  · exact IntWalk.u64_in n h

section
variable {P : Program} {be : Nm} {ga : Nat → Nat} {O : Nat → Prop} {w : World} {fr : Nat → AV} {hp : Nat → Option Ent} {a : Act} {o : Oper} {cnd : Prop} {K : AV → Prop} {B : Nat}

theorem eval_const (a : Act) (v : Value) : a.eval (.const v) = v := rfl

/-- The operation makes a value that reads as v. -/
def Ex (P : Program) (a : Act) (o : Oper) (w : World) (R : AV → Value → Prop) (v : AV) : Prop := ∃ u, (execOp a.eval o).run P w = .ok (.value u) w ∧ R v u

def Ents (be : Nm) (ga : Nat → Nat) (O : Nat → Prop) (w : World) (B : Nat) (hp : Nat → Option Ent) : Prop := ∀ s e, hp s = some e → EntOk be ga O w B s e

theorem rd_sound (hs : Slots be ga O w fr a) {x : Operand} {y : Opd} (hx : chkX x y = true) (h : (rd cnd fr y).run K) : ∃ v, K v ∧ (cnd → RA be ga O w v (a.eval x)) := by
  obtain ⟨v, hk, hv⟩ := rd_run h
  exact ⟨v, hk, fun hc => hv hc _ _ _ _ _ (chkX_RA hs hx)⟩

/-! moves -/

def cMov (op : Op) (x : Opd) : Bool :=
  match op with
  | .move y => chkX y x
  | .assign y => chkX y x
  | _ => false

theorem v_mov {x : Opd} (hs : Slots be ga O w fr a) (hc : cMov o.op x = true) (h : (pv hp ga cnd fr (.mov x)).run K) : ∃ v, K v ∧ (cnd → Ex P a o w (RA be ga O w) v) := by
  unfold cMov at hc
  split at hc
  · rename_i y ho
    replace h := rd_sound hs hc h
    obtain ⟨v, hk, hv⟩ := h
    exact ⟨v, hk, fun c => ⟨_, by simp [execOp, ho], hv c⟩⟩
  · rename_i y ho
    replace h := rd_sound hs hc h
    obtain ⟨v, hk, hv⟩ := h
    exact ⟨v, hk, fun c => ⟨_, by simp [execOp, ho], hv c⟩⟩
  · exact absurd hc (by decide)

def cPor (op : Op) (c b : Opd) : Bool :=
  match op with
  | .pick x (.const (.bool true)) y => chkX x c && chkX y b
  | _ => false

theorem v_por {c b : Opd} (hs : Slots be ga O w fr a) (hc : cPor o.op c b = true) (h : (pv hp ga cnd fr (.por c b)).run K) : ∃ v, K v ∧ (cnd → Ex P a o w (RA be ga O w) v) := by
  unfold cPor at hc
  split at hc
  · rename_i x y ho
    simp only [Bool.and_eq_true] at hc
    simp only [pv, M.run_bind] at h
    replace h := rd_sound hs hc.1 h
    obtain ⟨v, h, hv⟩ := h
    replace h := asB_run h
    obtain ⟨p, rfl, h⟩ := h
    rw [M.run_bind] at h
    replace h := rd_sound hs hc.2 h
    obtain ⟨u, h, hu⟩ := h
    replace h := asB_run h
    obtain ⟨q, rfl, h⟩ := h
    refine ⟨_, h, fun c => ?_⟩
    have e1 : a.eval x = .bool p := hv c
    cases p with
    | true => exact ⟨.bool true, by simp [execOp, ho, e1, asBool, eval_const], rfl⟩
    | false =>
      have e2 : a.eval y = .bool q := hu ⟨c, rfl⟩
      exact ⟨.bool q, by simp [execOp, ho, e1, e2, asBool], by simp [RA, RC]⟩
  · exact absurd hc (by decide)

def cPand (op : Op) (c b : Opd) : Bool :=
  match op with
  | .pick x y (.const (.bool false)) => chkX x c && chkX y b
  | _ => false

theorem v_pand {c b : Opd} (hs : Slots be ga O w fr a) (hc : cPand o.op c b = true) (h : (pv hp ga cnd fr (.pand c b)).run K) : ∃ v, K v ∧ (cnd → Ex P a o w (RA be ga O w) v) := by
  unfold cPand at hc
  split at hc
  · rename_i x y ho
    simp only [Bool.and_eq_true] at hc
    simp only [pv, M.run_bind] at h
    replace h := rd_sound hs hc.1 h
    obtain ⟨v, h, hv⟩ := h
    replace h := asB_run h
    obtain ⟨p, rfl, h⟩ := h
    rw [M.run_bind] at h
    replace h := rd_sound hs hc.2 h
    obtain ⟨u, h, hu⟩ := h
    replace h := asB_run h
    obtain ⟨q, rfl, h⟩ := h
    refine ⟨_, h, fun c => ?_⟩
    have e1 : a.eval x = .bool p := hv c
    cases p with
    | false => exact ⟨.bool false, by simp [execOp, ho, e1, asBool, eval_const], rfl⟩
    | true =>
      have e2 : a.eval y = .bool q := hu ⟨c, rfl⟩
      exact ⟨.bool q, by simp [execOp, ho, e1, e2, asBool], by simp [RA, RC]⟩
  · exact absurd hc (by decide)

/-! memory -/

theorem getE_run {α : Type} {L : α → Prop} {s q : Nat} {f : Ent → M α} (h : (getE hp ga s q f).run L) : q = ga s ∧ ∃ e, hp s = some e ∧ (f e).run L := by
  unfold getE at h
  rw [M.run_iff'] at h
  obtain ⟨h1, h⟩ := h
  refine ⟨beqN h1, ?_⟩
  split at h
  · rename_i e he; exact ⟨e, he, h⟩
  · exact h.elim

theorem varE_run {α : Type} {L : α → Prop} {e : Ent} {col m : Nat} {f : (Nat → AV) → M α} (h : (varE e col m f).run L) : ∃ c, e.c = .var c ∧ e.n = 1 ∧ col + m ≤ e.size ∧ (f c).run L := by
  unfold varE at h
  split at h
  · rename_i c hc
    rw [M.run_iff'] at h
    simp only [Bool.and_eq_true] at h
    exact ⟨c, hc, beqN h.1.1, Nat.le_of_ble_eq_true h.1.2, h.2⟩
  · exact h.elim

theorem rowE_run {α : Type} {L : α → Prop} {e : Ent} {size row col m : Nat} {x : M α} (h : (rowE e size row col m x).run L) : e.size = size ∧ col + m ≤ size ∧ row < e.n ∧ x.run L := by
  unfold rowE at h
  rw [M.run_iff'] at h
  simp only [Bool.and_eq_true] at h
  exact ⟨beqN h.1.1, Nat.le_of_ble_eq_true h.1.2, h.2.l, h.2.r⟩

/-- The cells of an entry's element. -/
theorem ent_at (he : Ents be ga O w B hp) {s : Nat} {e : Ent} (hs : hp s = some e) {b : Nat} (hb : be s (ga s) = some b) {row col : Nat} (hr : row < e.n) (hc : col < e.size) :
    ∃ u, w.cell? ⟨b, row * e.size + col, none⟩ = some u ∧ u.oneCell' = true ∧ RA be ga O w (e.c.at row col) u := by
  rcases he s e hs with ⟨_, h0⟩ | ⟨b', cs, el, fz, h1, h2, h3, h4⟩
  · omega
  · rw [hb] at h1
    obtain rfl := Option.some.inj h1
    obtain ⟨u, hu, hru⟩ := h4.cont row hr col hc
    exact ⟨u, by simp [World.cell?, h3, hu], h4.one _ u hu, hru⟩

theorem addr_add (b o n : Nat) : (⟨b, o, none⟩ : Addr).add n = ⟨b, o + n, none⟩ := by
  unfold Addr.add; split
  · rename_i h; subst h; rfl
  · rfl

/-- Cells that lie in a row are loaded as one. -/
theorem loadA_cells {t : TypeId} {i : TypeInfo} (hi : P.info? t = some i) (hagg : isAggT P t = true) {b off : Nat} {R : Nat → Value → Prop}
    (h : ∀ j, j < i.size → ∃ u, w.cell? ⟨b, off + j, none⟩ = some u ∧ u.oneCell' = true ∧ R j u) :
    ∃ cs : Array Value, (loadVar t ⟨b, off, none⟩).run P w = .ok (.agg cs) w ∧ cs.size = i.size ∧ ∀ j, j < i.size → ∃ u, cs[j]? = some u ∧ u.oneCell' = true ∧ R j u := by
  let f : Nat → Value := fun j => (w.cell? ⟨b, off + j, none⟩).getD Go.undef
  refine ⟨((List.range i.size).map f).toArray, ?_, by simp, fun j hj => ?_⟩
  · unfold loadVar
    have hl := run_loadCells (P := P) w ⟨b, off, none⟩ i.size f (fun j hj => by
      obtain ⟨u, hu, _⟩ := h j hj
      rw [addr_add, hu]
      show _ = some ((w.cell? ⟨b, off + j, none⟩).getD Go.undef)
      rw [hu]; rfl)
    simp [run_isAgg_true hagg, run_sizeOf hi, hl]
  · obtain ⟨u, hu, h1, hr⟩ := h j hj
    refine ⟨u, ?_, h1, hr⟩
    have : f j = u := by show (w.cell? ⟨b, off + j, none⟩).getD Go.undef = u; rw [hu]; rfl
    simp [hj, this]

theorem load1_cell {t : TypeId} (h1 : isOneT P t = true) {b off : Nat} {u : Value} (hu : w.cell? ⟨b, off, none⟩ = some u) :
    (loadVar t ⟨b, off, none⟩).run P w = .ok u w := by
  simp [loadVar, run_isAgg_false h1, hu]

def cLoad1 (P : Program) (op : Op) (x : Opd) : Bool :=
  match op with
  | .load t y => isOneT P t && chkX y x
  | _ => false

theorem v_load1 {x : Opd} (hs : Slots be ga O w fr a) (he : Ents be ga O w B hp) (hc : cLoad1 P o.op x = true) (h : (pv hp ga cnd fr (.load1 x)).run K) : ∃ v, K v ∧ (cnd → Ex P a o w (RA be ga O w) v) := by
  unfold cLoad1 at hc
  split at hc
  case h_2 => exact absurd hc (by decide)
  rename_i t y ho
  simp only [Bool.and_eq_true] at hc
  simp only [pv, M.run_bind] at h
  replace h := rd_sound hs hc.2 h
  obtain ⟨v, h, hv⟩ := h
  unfold load1 at h
  split at h
  · rename_i s q col
    replace h := getE_run h
    obtain ⟨hq, e, hse, h⟩ := h
    replace h := varE_run h
    obtain ⟨c, hec, hn, hcol, h⟩ := h
    refine ⟨_, h, fun cc => ?_⟩
    obtain ⟨_, b, hb, hp'⟩ := hv cc
    subst hq
    obtain ⟨u, hu, h1, hr⟩ := ent_at he hse hb (row := 0) (col := col) (by omega) (by omega)
    rw [Nat.zero_mul, Nat.zero_add] at hu
    refine ⟨u, ?_, by rw [hec] at hr; exact hr⟩
    simp [execOp, ho, hp', Instr.loadAt, Instr.sureAddr, load1_cell hc.1 hu]
  · rename_i s q size row col
    replace h := getE_run h
    obtain ⟨hq, e, hse, h⟩ := h
    replace h := rowE_run h
    obtain ⟨hz, hcol, hn, h⟩ := h
    refine ⟨_, h, fun cc => ?_⟩
    obtain ⟨_, b, hb, hp'⟩ := hv cc
    subst hq hz
    obtain ⟨u, hu, h1, hr⟩ := ent_at he hse hb (row := row) (col := col) hn (by omega)
    refine ⟨u, ?_, hr⟩
    simp [execOp, ho, hp', Instr.loadAt, Instr.sureAddr, load1_cell hc.1 hu]
  · rename_i n f col
    rw [M.run_iff'] at h
    refine ⟨_, h.2, fun cc => ?_⟩
    obtain ⟨b, off, hp', hcells⟩ := hv cc
    obtain ⟨_, u, hu, hr⟩ := hcells col (Nat.le_of_ble_eq_true h.1)
    refine ⟨u, ?_, hr⟩
    simp [execOp, ho, hp', Instr.loadAt, Instr.sureAddr, load1_cell hc.1 hu]
  · exact h.elim

theorem RC_one {x : Cell} {u : Value} (h : RC O w x u) : u.oneCell' = true := by
  cases x with
  | int k n => rw [show u = .int k n from h]; rfl
  | bool b => rw [show u = .bool b from h]; rfl
  | str s => rw [show u = .string ⟨⟨s⟩⟩ from h]; rfl
  | fn f => rw [show u = .func (.func f) #[] #[] from h]; rfl
  | sl size n f =>
    rcases h with ⟨_, p, h⟩ | ⟨b, off, cap, h, _⟩ <;> (rw [h]; rfl)

def cLoadA (P : Program) (op : Op) (m : Nat) (x : Opd) : Bool :=
  match op with
  | .load t y => isAggT P t && szT P t m && chkX y x
  | _ => false

theorem v_loadA {m : Nat} {x : Opd} (hs : Slots be ga O w fr a) (he : Ents be ga O w B hp) (hc : cLoadA P o.op m x = true) (h : (pv hp ga cnd fr (.loadA m x)).run K) : ∃ v, K v ∧ (cnd → Ex P a o w (RA be ga O w) v) := by
  unfold cLoadA at hc
  split at hc
  case h_2 => exact absurd hc (by decide)
  rename_i t y ho
  simp only [Bool.and_eq_true] at hc
  obtain ⟨⟨hagg, hsz⟩, hx⟩ := hc
  obtain ⟨i, hi, hm⟩ := szT_eq hsz
  simp only [pv, M.run_bind] at h
  replace h := rd_sound hs hx h
  obtain ⟨v, h, hv⟩ := h
  unfold loadA at h
  split at h
  · rename_i s q col
    replace h := getE_run h
    obtain ⟨hq, e, hse, h⟩ := h
    replace h := varE_run h
    obtain ⟨c, hec, hn, hcol, h⟩ := h
    refine ⟨_, h, fun cc => ?_⟩
    obtain ⟨_, b, hb, hp'⟩ := hv cc
    subst hq
    obtain ⟨cs, hl, hcs, hall⟩ := loadA_cells (P := P) (w := w) hi hagg (b := b) (off := col) (R := fun j u => RA be ga O w (c (col + j)) u) (fun j hj => by
      obtain ⟨u, hu, h1, hr⟩ := ent_at he hse hb (row := 0) (col := col + j) (by omega) (by omega)
      rw [Nat.zero_mul, Nat.zero_add] at hu
      rw [hec] at hr
      exact ⟨u, hu, h1, hr⟩)
    exact ⟨.agg cs, by simp [execOp, ho, hp', Instr.loadAt, Instr.sureAddr, hl], cs, rfl, hcs.trans hm, fun j hj => hall j (by omega)⟩
  · rename_i s q size row col
    replace h := getE_run h
    obtain ⟨hq, e, hse, h⟩ := h
    replace h := rowE_run h
    obtain ⟨hz, hcol, hn, h⟩ := h
    refine ⟨_, h, fun cc => ?_⟩
    obtain ⟨_, b, hb, hp'⟩ := hv cc
    subst hq hz
    obtain ⟨cs, hl, hcs, hall⟩ := loadA_cells (P := P) (w := w) hi hagg (b := b) (off := row * e.size + col) (R := fun j u => RA be ga O w (e.c.at row (col + j)) u) (fun j hj => by
      obtain ⟨u, hu, h1, hr⟩ := ent_at he hse hb (row := row) (col := col + j) hn (by omega)
      rw [← Nat.add_assoc] at hu
      exact ⟨u, hu, h1, hr⟩)
    exact ⟨.agg cs, by simp [execOp, ho, hp', Instr.loadAt, Instr.sureAddr, hl], cs, rfl, hcs.trans hm, fun j hj => hall j (by omega)⟩
  · rename_i n f col
    rw [M.run_iff'] at h
    have hle := Nat.le_of_ble_eq_true h.1
    refine ⟨_, h.2, fun cc => ?_⟩
    obtain ⟨b, off, hp', hcells⟩ := hv cc
    obtain ⟨cs, hl, hcs, hall⟩ := loadA_cells (P := P) (w := w) hi hagg (b := b) (off := off + col) (R := fun j u => RC O w (f (col + j)) u) (fun j hj => by
      obtain ⟨_, u, hu, hr⟩ := hcells (col + j) (by omega)
      rw [← Nat.add_assoc] at hu
      exact ⟨u, hu, RC_one hr, hr⟩)
    exact ⟨.agg cs, by simp [execOp, ho, hp', Instr.loadAt, Instr.sureAddr, hl], cs, rfl, hcs.trans hm, fun j hj => hall j (by omega)⟩
  · exact h.elim

theorem v_loadR {m : Nat} {x : Opd} (hs : Slots be ga O w fr a) (he : Ents be ga O w B hp) (hc : cLoadA P o.op m x = true) (h : (pv hp ga cnd fr (.loadR m x)).run K) : ∃ v, K v ∧ (cnd → Ex P a o w (RA be ga O w) v) := by
  unfold cLoadA at hc
  split at hc
  case h_2 => exact absurd hc (by decide)
  rename_i t y ho
  simp only [Bool.and_eq_true] at hc
  obtain ⟨⟨hagg, hsz⟩, hx⟩ := hc
  obtain ⟨i, hi, hm⟩ := szT_eq hsz
  simp only [pv, M.run_bind] at h
  replace h := rd_sound hs hx h
  obtain ⟨v, h, hv⟩ := h
  unfold loadR at h
  split at h
  · rename_i s q size row col
    replace h := getE_run h
    obtain ⟨hq, e, hse, h⟩ := h
    rw [M.run_iff', M.run_need] at h
    simp only [Bool.and_eq_true] at h
    obtain ⟨⟨⟨⟨z1, z2⟩, z3⟩, z4⟩, hmn, h⟩ := h
    obtain ⟨z1, z2, z3, z4⟩ := And.intro (beqN z1) (And.intro (beqN z2) (And.intro (beqN z3) (beqN z4)))
    refine ⟨_, h, fun cc => ?_⟩
    obtain ⟨_, b, hb, hp'⟩ := hv cc
    subst hq z2 z3 z4
    obtain ⟨cs, hl, hcs, hall⟩ := loadA_cells (P := P) (w := w) hi hagg (b := b) (off := 0) (R := fun j u => RA be ga O w (e.c.at j 0) u) (fun j hj => by
      obtain ⟨u, hu, h1, hr⟩ := ent_at he hse hb (row := j) (col := 0) (by omega) (by omega)
      rw [z1] at hu
      rw [Nat.zero_add]
      exact ⟨u, by simpa using hu, h1, hr⟩)
    exact ⟨.agg cs, by simp [execOp, ho, hp', Instr.loadAt, Instr.sureAddr, hl], cs, rfl, hcs.trans hm, fun j hj => hall j (by omega)⟩
  · rename_i n f col
    rw [M.run_iff'] at h
    have hle := Nat.le_of_ble_eq_true h.1
    refine ⟨_, h.2, fun cc => ?_⟩
    obtain ⟨b, off, hp', hcells⟩ := hv cc
    obtain ⟨cs, hl, hcs, hall⟩ := loadA_cells (P := P) (w := w) hi hagg (b := b) (off := off + col) (R := fun j u => RC O w (f (col + j)) u) (fun j hj => by
      obtain ⟨_, u, hu, hr⟩ := hcells (col + j) (by omega)
      rw [← Nat.add_assoc] at hu
      exact ⟨u, hu, RC_one hr, hr⟩)
    exact ⟨.agg cs, by simp [execOp, ho, hp', Instr.loadAt, Instr.sureAddr, hl], cs, rfl, hcs.trans hm, fun j hj => hall j (by omega)⟩
  · exact h.elim

/-! addresses -/

def cField (P : Program) (op : Op) (off : Nat) (x : Opd) : Bool :=
  match op with
  | .fieldAddr s y f => (match P.underlying s with
    | some (.struct fs) => (match fs[f]? with
      | some fd => Nat.beq fd.offset off && (match P.info? fd.type with
        | some i => !(Nat.beq i.size 0)
        | none => false)
      | none => false)
    | _ => false) && chkX y x
  | _ => false

theorem fieldP_run {off : Nat} {v : AV} (h : (fieldP off v).run K) : ∃ v', K v' ∧ ∀ u, RA be ga O w v u → ∃ b n, u = .pointer (some ⟨b, n, none⟩) ∧ RA be ga O w v' (.pointer (some ⟨b, n + off, none⟩)) := by
  unfold fieldP at h
  split at h
  · refine ⟨_, h, fun u hu => ?_⟩
    obtain ⟨hq, b, hb, rfl⟩ := hu
    exact ⟨b, _, rfl, hq, b, hb, rfl⟩
  · refine ⟨_, h, fun u hu => ?_⟩
    obtain ⟨hq, b, hb, rfl⟩ := hu
    exact ⟨b, _, rfl, hq, b, hb, by rw [Nat.add_assoc]⟩
  · refine ⟨_, h, fun u hu => ?_⟩
    obtain ⟨b, o, rfl, hc⟩ := hu
    exact ⟨b, _, rfl, b, o, by rw [Nat.add_assoc], hc⟩
  · exact h.elim

theorem v_field {off : Nat} {x : Opd} (hs : Slots be ga O w fr a) (hc : cField P o.op off x = true) (h : (pv hp ga cnd fr (.field off x)).run K) : ∃ v, K v ∧ (cnd → Ex P a o w (RA be ga O w) v) := by
  unfold cField at hc
  split at hc
  case h_2 => exact absurd hc (by decide)
  rename_i s y f ho
  simp only [Bool.and_eq_true] at hc
  obtain ⟨ht, hx⟩ := hc
  simp only [pv, M.run_bind] at h
  replace h := rd_sound hs hx h
  obtain ⟨v, h, hv⟩ := h
  split at ht
  case h_2 => exact absurd ht (by decide)
  rename_i fs hfs
  split at ht
  case h_2 => exact absurd ht (by decide)
  rename_i fd hfd
  simp only [Bool.and_eq_true] at ht
  obtain ⟨hoff, ht⟩ := ht
  split at ht
  case h_2 => exact absurd ht (by decide)
  rename_i i hi
  obtain rfl := beqN hoff
  replace h := fieldP_run (be := be) (ga := ga) (O := O) (w := w) h
  obtain ⟨v', hk, hv'⟩ := h
  refine ⟨v', hk, fun cc => ?_⟩
  obtain ⟨b, n, hu, hr⟩ := hv' _ (hv cc)
  have hz : i.size ≠ 0 := by
    intro h0; rw [h0] at ht; exact absurd ht (by decide)
  refine ⟨_, ?_, hr⟩
  simp [execOp, ho, hu, Instr.fieldAt, Instr.sureAddr, run_underlying hfs, hfd, fieldPlace, run_sizeOf hi, hz, addr_add]

def cNilc (op : Op) (x : Opd) : Bool :=
  match op with
  | .nilCheck y => chkX y x
  | _ => false

theorem v_nilc {x : Opd} (hs : Slots be ga O w fr a) (hc : cNilc o.op x = true) (h : (pv hp ga cnd fr (.nilc x)).run K) : ∃ v, K v ∧ (cnd → Ex P a o w (RA be ga O w) v) := by
  unfold cNilc at hc
  split at hc
  case h_2 => exact absurd hc (by decide)
  rename_i y ho
  simp only [pv, M.run_bind] at h
  replace h := rd_sound hs hc h
  obtain ⟨v, h, hv⟩ := h
  replace h := fieldP_run (be := be) (ga := ga) (O := O) (w := w) h
  obtain ⟨v', hk, hv'⟩ := h
  refine ⟨v', hk, fun cc => ?_⟩
  obtain ⟨b, n, hu, hr⟩ := hv' _ (hv cc)
  exact ⟨_, by simp [execOp, ho, hu], hr⟩

def cIxS (P : Program) (op : Op) (size : Nat) (x i : Opd) : Bool :=
  match op with
  | .indexAddr t y j => slT' P t size && chkX y x && chkX j i
  | _ => false

theorem v_ixS {size : Nat} {x i : Opd} (hs : Slots be ga O w fr a) (hc : cIxS P o.op size x i = true) (h : (pv hp ga cnd fr (.ixS size x i)).run K) : ∃ v, K v ∧ (cnd → Ex P a o w (RA be ga O w) v) := by
  unfold cIxS at hc
  split at hc
  case h_2 => exact absurd hc (by decide)
  rename_i t y j ho
  simp only [Bool.and_eq_true] at hc
  obtain ⟨⟨ht, hx⟩, hi⟩ := hc
  obtain ⟨e, inf, hu, hinf, hsz⟩ := slT'_eq ht
  simp only [pv, M.run_bind] at h
  replace h := rd_sound hs hx h
  obtain ⟨v, h, hv⟩ := h
  replace h := rd_sound hs hi h
  obtain ⟨v2, h, hv2⟩ := h
  replace h := asI_run h
  obtain ⟨k, n, rfl, h⟩ := h
  have run : ∀ b off l cap, a.eval y = .slice (some ⟨b, off, none⟩) l cap → a.eval j = .int k n → 0 ≤ n → n < l →
      (execOp a.eval o).run P w = .ok (.value (.pointer (some ⟨b, off + n.toNat * size, none⟩))) w := by
    intro b off l cap e1 e2 h0 h1
    subst hsz
    simp [execOp, ho, Instr.indexAt, e1, e2, asIntOf, run_underlying hu, h0, h1, run_sizeOf hinf, addr_add]
  unfold ixS at h
  split at h
  · rename_i sz m f
    rw [M.run_iff', M.run_need] at h
    obtain ⟨z, ⟨h0, h1⟩, h⟩ := h
    obtain rfl := beqN z
    refine ⟨_, h, fun cc => ?_⟩
    have e2 : a.eval j = .int k n := hv2 cc
    rcases hv cc with ⟨hm, _⟩ | ⟨b, off, cap, e1, hc1, hc2, hcells⟩
    · omega
    · refine ⟨_, run b off m cap e1 e2 h0 h1, b, off + n.toNat * sz, by simp, fun jj hj => ?_⟩
      exact hcells n.toNat (by omega) jj hj
  · rename_i s q sz off len
    rw [M.run_iff', M.run_need] at h
    obtain ⟨z, ⟨h0, h1⟩, h⟩ := h
    obtain rfl := beqN z
    refine ⟨_, h, fun cc => ?_⟩
    have e2 : a.eval j = .int k n := hv2 cc
    obtain ⟨hq, hv⟩ := hv cc
    rcases hv with ⟨_, _, hl, _⟩ | ⟨b, oo, cap, cs, el, fz, hb, e1, hc1, hc2, hc3, hh, hc4⟩
    · omega
    · refine ⟨_, run b oo len cap e1 e2 h0 h1, hq, b, hb, ?_⟩
      rw [hc3 (by omega), Nat.add_mul, Nat.add_zero]
  · exact absurd h.l id
  · exact h.elim

def cIxA (P : Program) (op : Op) (size len : Nat) (x i : Opd) : Bool :=
  match op with
  | .indexAddr t y j => (match P.underlying t with
    | some (.array l e) => Nat.beq l len && szT P e size
    | _ => false) && chkX y x && chkX j i
  | _ => false

theorem v_ixA {size len : Nat} {x i : Opd} (hs : Slots be ga O w fr a) (hc : cIxA P o.op size len x i = true) (h : (pv hp ga cnd fr (.ixA size len x i)).run K) : ∃ v, K v ∧ (cnd → Ex P a o w (RA be ga O w) v) := by
  unfold cIxA at hc
  split at hc
  case h_2 => exact absurd hc (by decide)
  rename_i t y j ho
  simp only [Bool.and_eq_true] at hc
  obtain ⟨⟨ht, hx⟩, hi⟩ := hc
  split at ht
  case h_2 => exact absurd ht (by decide)
  rename_i l e hu
  simp only [Bool.and_eq_true] at ht
  obtain rfl := beqN ht.1
  obtain ⟨inf, hinf, hsz⟩ := szT_eq ht.2
  simp only [pv, M.run_bind] at h
  replace h := rd_sound hs hx h
  obtain ⟨v, h, hv⟩ := h
  replace h := rd_sound hs hi h
  obtain ⟨v2, h, hv2⟩ := h
  replace h := asI_run h
  obtain ⟨k, n, rfl, h⟩ := h
  have run : ∀ b off, a.eval y = .pointer (some ⟨b, off, none⟩) → a.eval j = .int k n → 0 ≤ n → n < l →
      (execOp a.eval o).run P w = .ok (.value (.pointer (some ⟨b, off + n.toNat * size, none⟩))) w := by
    intro b off e1 e2 h0 h1
    subst hsz
    simp [execOp, ho, Instr.indexAt, e1, e2, asIntOf, Instr.sureAddr, run_underlying hu, h0, h1, run_sizeOf hinf, addr_add]
  unfold ixA at h
  split at h
  · rename_i s q sz row col
    rw [M.run_iff', M.run_need] at h
    simp only [Bool.and_eq_true] at h
    obtain ⟨⟨⟨z, z1⟩, z2⟩, ⟨h0, h1⟩, h⟩ := h
    obtain rfl := beqN z
    obtain rfl := beqN z1
    obtain rfl := beqN z2
    refine ⟨_, h, fun cc => ?_⟩
    obtain ⟨hq, b, hb, e1⟩ := hv cc
    have e2 : a.eval j = .int k n := hv2 cc
    exact ⟨_, run b _ e1 e2 h0 h1, hq, b, hb, by simp⟩
  · rename_i m f col
    rw [M.run_iff', M.run_need] at h
    obtain ⟨z, ⟨h0, h1⟩, h⟩ := h
    obtain rfl := beqN z
    refine ⟨_, h, fun cc => ?_⟩
    obtain ⟨b, off, e1, hcells⟩ := hv cc
    have e2 : a.eval j = .int k n := hv2 cc
    exact ⟨_, run b _ e1 e2 h0 h1, b, off, by simp [Nat.add_assoc], hcells⟩
  · exact h.elim

end
end Lk
