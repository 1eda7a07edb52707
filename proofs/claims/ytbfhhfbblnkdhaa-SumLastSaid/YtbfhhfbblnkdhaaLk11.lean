/-
  The abstract machine, part 11: slices built, and appended to; stores; all operations but calls.
-/
import Derived.Test.YtbfhhfbblnkdhaaLk10
namespace Lk
open Go Go.RowKit
section
variable {P : Program} {O : Nat → Prop} {W : World} {N : Nat} {fr : Nat → AV} {hp : Nat → Option Ent} {gc : Nat → Nat} {a : Act} {w : World} {be : Nm} {o : Oper} {d : Nat} {L : Dl → Prop}

/-! a slice of parts -/

/-- The parts' values read as the cells that were frozen. -/
inductive PR (Q : Nat → Prop) (w : World) (a : Act) (size : Nat) : List (Nat × Operand) → List (Nat × (Nat → Cell)) → Prop
  | nil : PR Q w a size [] []
  | cons {r : Nat} {x : Operand} {g : Nat → Cell} {ps : List (Nat × Operand)} {l : List (Nat × (Nat → Cell))} (h1 : (a.eval x).cells.size = size)
      (h2 : ∀ j, j < size → ∃ u, (a.eval x).cells[j]? = some u ∧ u.oneCell' = true ∧ RC Q w (g j) u) (t : PR Q w a size ps l) : PR Q w a size ((r, x) :: ps) ((r, g) :: l)

theorem PR.keep {Q Q' : Nat → Prop} {size : Nat} {ps : List (Nat × Operand)} {l : List (Nat × (Nat → Cell))} {be be' : Nm} {ga ga' : Nat → Nat} {w' : World} (k : Keeps be ga Q w be' ga' Q' w') (h : PR Q w a size ps l) : PR Q' w' a size ps l := by
  induction h with
  | nil => exact .nil
  | cons h1 h2 _ ih => exact .cons h1 (fun j hj => let ⟨u, hu, ho, hr⟩ := h2 j hj; ⟨u, hu, ho, k.rc hr⟩) ih

def chkPs (len : Nat) : List (Nat × Operand) → List (Nat × Opd) → Bool
  | [], [] => true
  | (i, x) :: r, (j, y) :: s => Nat.beq i j && Nat.ble (i + 1) len && chkX x y && chkPs len r s
  | _, _ => false

theorem partsL_run {size len : Nat} : ∀ (qs : List (Nat × Opd)) (ps : List (Nat × Operand)) (hp : Nat → Option Ent) (L : List (Nat × (Nat → Cell)) × List (Nat × Ent) → Prop), chkPs len ps qs = true →
    (partsL hp gc fr size qs).run L → ∃ l hs, L (l, hs) ∧ l.map (·.1) = ps.map (·.1) ∧ ∀ {O W N a w be}, Fz O W N fr gc a w be hp (putH hs hp) ∧ (Rel O W N ⟨fr, hp, gc⟩ a w be → PR (own O be ⟨fr, putH hs hp, gc⟩) w a size ps l)
  | [], [], hp, L, _, h => ⟨[], [], h, rfl, fun {_ _ _ _ _ _} => ⟨Fz.refl _, fun _ => .nil⟩⟩
  | [], _ :: _, hp, L, hc, _ => absurd hc (by simp [chkPs])
  | _ :: _, [], hp, L, hc, _ => absurd hc (by simp [chkPs])
  | (j, y) :: qs, (i, x) :: ps, hp, L, hc, h => by
    simp only [chkPs, Bool.and_eq_true] at hc
    obtain ⟨⟨⟨hij, hil⟩, hx⟩, hrest⟩ := hc
    obtain rfl := beqN hij
    simp only [partsL, M.run_bind] at h
    unfold rd at h
    -- the value read
    have hv : ∃ v, (∀ be ga Q w u, RA be ga Q w (opd fr y) u → RA be ga Q w v u) ∧ ((match v with
        | .agg n f => iff' (Nat.beq n size) (frzN hp gc n 0 f)
        | v => iff' (Nat.beq 1 size) (frzN hp gc 1 0 fun _ => v)).run fun x => (partsL (putH x.2 hp) gc fr size qs).run fun z => L ((i, x.1) :: z.1, x.2 ++ z.2)) := by
      obtain ⟨v, h, hv⟩ := rd_run (fr := fr) (x := y) h
      exact ⟨v, hv trivial, h⟩
    clear h
    obtain ⟨v, hv, h⟩ := hv
    -- its cells frozen
    have hz : ∃ g hs1, ((partsL (putH hs1 hp) gc fr size qs).run fun z => L ((i, g) :: z.1, hs1 ++ z.2)) ∧ ∀ {O W N a w be}, Fz O W N fr gc a w be hp (putH hs1 hp) ∧
        (Rel O W N ⟨fr, hp, gc⟩ a w be → ∀ u, RA be gc (own O be ⟨fr, hp, gc⟩) w v u → u.cells.size = size ∧ ∀ j, j < size → ∃ u', u.cells[j]? = some u' ∧ u'.oneCell' = true ∧ RC (own O be ⟨fr, putH hs1 hp, gc⟩) w (g j) u') := by
      split at h
      · rename_i n f
        rw [M.run_iff'] at h
        obtain ⟨hn, h⟩ := h
        obtain rfl := beqN hn
        obtain ⟨g, hs1, h, p⟩ := frzN_run n 0 f hp _ h
        refine ⟨g, hs1, h, fun {O W N a w be} => ?_⟩
        obtain ⟨f1, r1⟩ := p (O := O) (W := W) (N := N) (fr := fr) (a := a) (w := w) (be := be)
        refine ⟨f1, fun r u hu => ?_⟩
        obtain ⟨e1, e2⟩ := agg_reads hu
        refine ⟨e1, fun j hj => ?_⟩
        obtain ⟨u', hu', h1, hr⟩ := e2 j hj
        exact ⟨u', hu', h1, r1 r j hj u' (by rw [Nat.zero_add]; exact hr)⟩
      · rw [M.run_iff'] at h
        obtain ⟨hn, h⟩ := h
        obtain rfl := beqN hn
        obtain ⟨g, hs1, h, p⟩ := frzN_run 1 0 (fun _ => v) hp _ h
        refine ⟨g, hs1, h, fun {O W N a w be} => ?_⟩
        obtain ⟨f1, r1⟩ := p (O := O) (W := W) (N := N) (fr := fr) (a := a) (w := w) (be := be)
        refine ⟨f1, fun r u hu => ?_⟩
        have hrc := r1 r 0 (by omega) u hu
        have h1 := RC_one hrc
        rw [cells_one h1]
        refine ⟨rfl, fun j hj => ?_⟩
        obtain rfl : j = 0 := by omega
        exact ⟨u, rfl, h1, hrc⟩
    clear h
    obtain ⟨g, hs1, h, p1⟩ := hz
    obtain ⟨l, hs2, h, hrows, p2⟩ := partsL_run qs ps _ _ hrest h
    refine ⟨_, _, h, by simp [hrows], fun {O W N a w be} => ?_⟩
    obtain ⟨f1, r1⟩ := p1 (O := O) (W := W) (N := N) (a := a) (w := w) (be := be)
    obtain ⟨f2, r2⟩ := p2 (O := O) (W := W) (N := N) (a := a) (w := w) (be := be)
    rw [putH_append]
    refine ⟨f1.trans f2, fun r => ?_⟩
    obtain ⟨c1, c2⟩ := r1 r (a.eval x) (hv _ _ _ _ _ (chkX_RA r.slot hx))
    refine .cons c1 (fun j hj => ?_) (r2 (f1.rel r))
    obtain ⟨u', hu', h1, hr⟩ := c2 j hj
    exact ⟨u', hu', h1, (f2.keeps (f1.rel r)).rc hr⟩

/-- Cells that read as rows. -/
def RRows (Q : Nat → Prop) (w : World) (size len : Nat) (H : Nat → Nat → Cell) (cs : Array Value) : Prop :=
  cs.size = len * size ∧ ∀ i, i < len → ∀ j, j < size → ∃ u, cs[i * size + j]? = some u ∧ u.oneCell' = true ∧ RC Q w (H i j) u

theorem idx_lt {i j len size : Nat} (hi : i < len) (hj : j < size) : i * size + j < len * size := by
  have : (i + 1) * size ≤ len * size := Nat.mul_le_mul_right _ hi
  rw [Nat.add_mul, Nat.one_mul] at this
  omega
theorem idx_row {i j r k size : Nat} (hj : j < size) (hk : k < size) (h : i * size + j = r * size + k) : i = r ∧ j = k := by
  have h1 : (i * size + j) / size = i := by
    rw [Nat.mul_comm, Nat.mul_add_div (by omega), Nat.div_eq_of_lt hj, Nat.add_zero]
  have h2 : (r * size + k) / size = r := by
    rw [Nat.mul_comm, Nat.mul_add_div (by omega), Nat.div_eq_of_lt hk, Nat.add_zero]
  rw [h] at h1
  have : i = r := h1.symm.trans h2
  subst this
  exact ⟨rfl, by omega⟩

theorem rowsL_skip {r : Nat} {g : Nat → Cell} {H : Nat → Nat → Cell} : ∀ (l : List (Nat × (Nat → Cell))), r ∉ l.map (·.1) → ∀ i j, rowsL l (fun i j => bif Nat.beq i r then g j else H i j) i j = bif Nat.beq i r then g j else rowsL l H i j
  | [], _, i, j => rfl
  | (r', g') :: l, hr, i, j => by
    simp only [List.map_cons, List.mem_cons, not_or] at hr
    simp only [rowsL]
    by_cases h : i = r'
    · subst h
      have hb : Nat.beq i i = true := by simp
      rw [hb, beq_ne (fun e => hr.1 e.symm)]
      rfl
    · rw [beq_ne h]
      simp only [cond_false]
      exact rowsL_skip l hr.2 i j

theorem fillS {Q : Nat → Prop} {size len : Nat} : ∀ (ps : List (Nat × Operand)) (l : List (Nat × (Nat → Cell))) (H : Nat → Nat → Cell) (cs : Array Value), PR Q w a size ps l → RRows Q w size len H cs →
    (∀ p ∈ ps, p.1 < len) → (ps.map (·.1)).Nodup → ∃ cs', Instr.fill (fun i => some (i * size, size)) cs (ps.map fun (i, x) => (i, a.eval x)) = some cs' ∧ RRows Q w size len (rowsL l H) cs' := by
  intro ps
  induction ps with
  | nil =>
    intro l H cs hp hr _ _
    cases hp
    exact ⟨cs, rfl, hr⟩
  | cons p ps ih =>
    intro l H cs hp hr hlt hn
    cases hp with
    | cons h1 h2 t =>
      rename_i r x g l
      simp only [List.map_cons, List.nodup_cons] at hn
      have hrl : r < len := hlt (r, x) (by simp)
      have hfit : r * size + size ≤ len * size := by
        have : (r + 1) * size ≤ len * size := Nat.mul_le_mul_right _ hrl
        rw [Nat.add_mul, Nat.one_mul] at this
        exact this
      have hf := fold_set (a.eval x).cells.toList 0 (r * size) cs
      have e : (a.eval x).cells.zipIdx.foldl (fun cs (c, j) => cs.setIfInBounds (r * size + j) c) cs = ((a.eval x).cells.toList.zipIdx 0).foldl (fun cs (c, j) => cs.setIfInBounds (r * size + j) c) cs := by
        rw [← Array.foldl_toList, Array.toList_zipIdx]
      have hr' : RRows Q w size len (fun i j => bif Nat.beq i r then g j else H i j) ((a.eval x).cells.zipIdx.foldl (fun cs (c, j) => cs.setIfInBounds (r * size + j) c) cs) := by
        rw [e]
        refine ⟨hf.1.trans hr.1, fun i hi j hj => ?_⟩
        rw [hf.2]
        simp only [Nat.add_zero, Array.length_toList, Array.getElem?_toList, h1]
        have hk := idx_lt hi hj
        by_cases hir : i = r
        · subst hir
          rw [if_pos ⟨by omega, by omega, by rw [hr.1]; exact hk⟩, show i * size + j - i * size = j by omega]
          obtain ⟨u, hu, ho, hrc⟩ := h2 j hj
          exact ⟨u, hu, ho, by simpa using hrc⟩
        · rw [if_neg]
          · obtain ⟨u, hu, ho, hrc⟩ := hr.2 i hi j hj
            exact ⟨u, hu, ho, by rw [beq_ne hir]; exact hrc⟩
          · intro hh
            exact hir (idx_row hj (show i * size + j - r * size < size by omega) (by omega)).1
      obtain ⟨cs', hf', hr''⟩ := ih l _ _ t hr' (fun p hp => hlt p (by simp [hp])) hn.2
      refine ⟨cs', ?_, ?_⟩
      · simp only [List.map_cons, Instr.fill]
        rw [if_neg (by simp; exact ⟨h1, by rw [h1, hr.1]; exact hfit⟩)]
        exact hf'
      · have hl : r ∉ l.map (·.1) := by
          have : ∀ (ps : List (Nat × Operand)) (l : List (Nat × (Nat → Cell))), PR Q w a size ps l → l.map (·.1) = ps.map (·.1) := by
            intro ps l h
            induction h with
            | nil => rfl
            | cons _ _ _ ih => simp [ih]
          rw [this _ _ t]
          exact hn.1
        refine ⟨hr''.1, fun i hi j hj => ?_⟩
        have := hr''.2 i hi j hj
        rw [rowsL_skip l hl] at this
        exact this

def nodupB : List Nat → Bool
  | [] => true
  | x :: r => !(r.contains x) && nodupB r
theorem nodupB_eq : ∀ {l : List Nat}, nodupB l = true → l.Nodup
  | [], _ => List.nodup_nil
  | x :: r, h => by
    simp only [nodupB, Bool.and_eq_true, Bool.not_eq_true'] at h
    exact List.nodup_cons.2 ⟨fun hm => by simp [hm] at h, nodupB_eq h.2⟩

def cBuildS (P : Program) (op : Op) (size len : Nat) (z : List Cst) (parts : List (Nat × Opd)) : Bool :=
  match op with
  | .buildSlice t l ps => (match slE P t with
    | some e => chkZero P e z
    | none => false) && Nat.beq l len && Nat.beq z.length size && Nat.ble 1 size && Nat.ble (len * size) 16777216 && chkPs len ps.toList parts && nodupB (ps.toList.map (·.1))
  | _ => false

theorem chkPs_lt {len : Nat} : ∀ {ps : List (Nat × Operand)} {qs : List (Nat × Opd)}, chkPs len ps qs = true → ∀ p ∈ ps, p.1 < len
  | [], _, _, p, hp => absurd hp (by simp)
  | (i, x) :: ps, [], h, _, _ => absurd h (by simp [chkPs])
  | (i, x) :: ps, (j, y) :: qs, h, p, hp => by
    simp only [chkPs, Bool.and_eq_true] at h
    rcases List.mem_cons.1 hp with rfl | hp
    · exact Nat.le_of_ble_eq_true h.1.1.2
    · exact chkPs_lt h.2 p hp

theorem run_buildSlice {t e : TypeId} {i : TypeInfo} {zv : Value} {len : Nat} {parts : Array (Nat × Value)} {cs : Array Value} (hu : P.underlying t = some (.slice e)) (hi : P.info? e = some i) (hz : i.zero = some zv) (h24 : len * i.size ≤ 16777216)
    (hf : Instr.fill (fun k => some (k * i.size, i.size)) (madeCells zv.cells (len * i.size)) parts.toList = some cs) :
    (Instr.buildSlice t len parts).run P w = .ok (.slice (some ⟨w.heap.size, 0, none⟩) len len) (w.alloc (.cells cs e)) := by
  have h24' : ¬ (16777216 < len * i.size) := by omega
  by_cases hl0 : len * i.size = 0
  · rw [hl0] at hf
    have hm : ∀ z : Array Value, madeCells z 0 = #[] := fun z => by simp [madeCells, Array.range_zero']
    rw [hm] at hf
    have hf2 : Instr.fill (fun k => some (k * i.size, i.size)) ((Array.range (len * i.size)).map ((#[] : Array Value)[· % (#[] : Array Value).size]!)) parts.toList = some cs := by
      rw [hl0]; simpa [Array.range_zero'] using hf
    unfold Instr.buildSlice
    simp only [Sem.run_bind, run_underlying hu, Result.andThen_ok, run_sizeOf hi]
    rw [if_neg (by omega)]
    simp only [hl0, if_true, Sem.run_bind, Sem.run_pure, Result.andThen_ok, Nat.zero_mul]
    rw [hl0] at hf2
    simp only [hf2, newRow, Sem.run_bind, run_newObj, Sem.run_pure, Result.andThen_ok]
    rfl
  · have hf2 : Instr.fill (fun k => some (k * i.size, i.size)) ((Array.range (len * i.size)).map (zv.cells[· % zv.cells.size]!)) parts.toList = some cs := hf
    unfold Instr.buildSlice
    simp only [Sem.run_bind, run_underlying hu, Result.andThen_ok, run_sizeOf hi]
    rw [if_neg (by omega)]
    simp only [hl0, if_false, Sem.run_bind, Sem.run_pure, Result.andThen_ok, zeroValue, typeInfo, run_program, hi, hz]
    simp only [hf2, newRow, Sem.run_bind, run_newObj, Sem.run_pure, Result.andThen_ok]
    rfl

theorem e_buildS (h : Rel O W N ⟨fr, hp, gc⟩ a w be) {size len : Nat} {z : List Cst} {parts : List (Nat × Opd)} (hc : cBuildS P o.op size len z parts = true) (hl : (eff (.buildS size len z parts) d True ⟨fr, hp, gc⟩).run L) :
    ∃ δ, L δ ∧ Ef P O W N fr hp gc a o w δ := by
  unfold cBuildS at hc
  split at hc
  case h_2 => exact absurd hc (by decide)
  rename_i t l ps ho
  simp only [Bool.and_eq_true] at hc
  obtain ⟨⟨⟨⟨⟨⟨hsl, hlen⟩, hz⟩, hpos⟩, hbig⟩, hps⟩, hnd⟩ := hc
  obtain rfl := beqN hlen
  obtain rfl := beqN hz
  have hpos := Nat.le_of_ble_eq_true hpos
  have hbig := Nat.le_of_ble_eq_true hbig
  have hnd := nodupB_eq hnd
  split at hsl
  case h_2 => exact absurd hsl (by decide)
  rename_i e he
  have hu := slE_eq he
  obtain ⟨i, zv, hi, hzv, hzz, hsz⟩ := chkZero_eq hsl
  simp only [eff, M.run_bind] at hl
  obtain ⟨pl, hs, hl, _, p⟩ := partsL_run parts ps.toList hp _ hps hl
  obtain ⟨f1, r1⟩ := p (O := O) (W := W) (N := N) (a := a) (w := w) (be := be)
  have h1 := f1.rel h
  have pr := r1 h
  have hmade := row_made (be := be) (gc := gc) (w := w) (Q := own O be ⟨fr, putH hs hp, gc⟩) hzz hpos l l (Nat.le_refl _) _ rfl true
  have hr0 : RRows (own O be ⟨fr, putH hs hp, gc⟩) w z.length l (fun _ j => cells z j) (madeCells zv.cells (l * z.length)) :=
    ⟨size_madeCells _ _, fun i hi j hj => by
      obtain ⟨u, hu, hr⟩ := hmade.cont i hi j hj
      exact ⟨u, hu, hmade.one _ u hu, hr⟩⟩
  obtain ⟨cs, hfill, hrows⟩ := fillS ps.toList pl _ _ pr hr0 (chkPs_lt hps) hnd
  have row : Row be gc (own O be ⟨fr, putH hs hp, gc⟩) w ⟨z.length, l, .dat (rowsL pl fun _ j => cells z j), false, true⟩ cs (0, 0) := by
    refine ⟨by simp only; rw [hrows.1]; exact Nat.le_refl _, fun k _ h => by omega, fun _ => rfl, fun k u hu => ?_, fun i hi j hj => ?_⟩
    · have hk : k < l * z.length := by
        rcases Nat.lt_or_ge k (l * z.length) with h' | h'
        · exact h'
        · rw [Array.getElem?_eq_none (by rw [hrows.1]; exact h')] at hu; exact absurd hu (by simp)
      have hd : k / z.length < l := Nat.div_lt_of_lt_mul (by rw [Nat.mul_comm]; exact hk)
      obtain ⟨u', hu', ho, _⟩ := hrows.2 (k / z.length) hd (k % z.length) (Nat.mod_lt _ hpos)
      rw [Nat.div_add_mod' k z.length, hu] at hu'
      rw [Option.some.inj hu']; exact ho
    · obtain ⟨u, hu, _, hr⟩ := hrows.2 i hi j hj
      exact ⟨u, hu, hr⟩
  have hrun : (execOp a.eval o).run P w = .ok (.value (.slice (some ⟨w.heap.size, 0, none⟩) l l)) (w.alloc (.cells cs e)) := by
    have := run_buildSlice (P := P) (w := w) (len := l) (parts := ps.map fun (i, x) => (i, a.eval x)) (cs := cs) hu hi hzv (by rw [hsz]; omega) (by rw [hsz, Array.toList_map]; exact hfill)
    simp only [execOp, ho, Sem.run_bind, this, Result.andThen_ok, Sem.run_pure]
  obtain ⟨be', hrel, hb, k⟩ := h1.new1 (d := d) (below_alloc w (.cells cs e)) (Nat.le_refl _) (heap_alloc_new' w _) row
  refine ⟨_, hl, _, _, be', hrun, ?_, ?_⟩
  · simp only [putH_append]; exact hrel
  · simp only [putH_append]
    exact ra_os_new (by show gc d + 1 ≤ bump gc d d; rw [bump_same]; exact Nat.le_refl _) hb (heap_alloc_new' w _) (Nat.le_refl _) (by
      have : l ≤ l * z.length := Nat.le_mul_of_pos_right _ hpos
      omega) (by rw [hrows.1]; exact Nat.le_refl _)

end
end Lk
