/-
  The abstract machine, part 7: structs built; all operations that make a value, in one.
-/
import Derived.Test.YtbfhhfbblnkdhaaLk6
import Derived.Laws.Tables
namespace Lk
open Go Go.RowKit
section
variable {P : Program} {be : Nm} {ga : Nat → Nat} {O : Nat → Prop} {w : World} {fr : Nat → AV} {hp : Nat → Option Ent} {a : Act} {o : Oper} {cnd : Prop} {K : AV → Prop} {B : Nat}

def plc (P : Program) (t : TypeId) (i : Nat) : Option (Nat × Nat) :=
  match P.underlying t with
  | some (.array _ e) => (P.info? e).map fun ie => (i * ie.size, ie.size)
  | some (.struct fs) => (match fs.toList.mapM (fun f => (P.info? f.type).map fun i => (f.offset, i.size)) with
    | some pl => pl.toArray[i]?
    | none => none)
  | _ => none

def okPlc (P : Program) (t : TypeId) : Bool :=
  match P.underlying t with
  | some (.array _ e) => (P.info? e).isSome
  | some (.struct fs) => (fs.toList.mapM (fun f => (P.info? f.type).map fun i => (f.offset, i.size))).isSome
  | _ => false

def chkZ : List Value → List Cst → Bool
  | [], [] => true
  | v :: r, c :: s => chkC v c && chkZ r s
  | _, _ => false

theorem chkZ_len : ∀ {vs : List Value} {z : List Cst}, chkZ vs z = true → vs.length = z.length
  | [], [], _ => rfl
  | v :: r, c :: s, h => by
    simp only [chkZ, Bool.and_eq_true] at h
    simp [chkZ_len h.2]
  | [], c :: s, h => absurd h (by simp [chkZ])
  | v :: r, [], h => absurd h (by simp [chkZ])

theorem chkZ_RA : ∀ {vs : List Value} {z : List Cst}, chkZ vs z = true → ∀ j, j < z.length → ∃ u, vs[j]? = some u ∧ u.oneCell' = true ∧ RA be ga O w (avs z j) u ∧ RC O w (cells z j) u
  | [], [], _, j, hj => absurd hj (by simp)
  | v :: r, c :: s, h, j, hj => by
    simp only [chkZ, Bool.and_eq_true] at h
    cases j with
    | zero => exact ⟨v, rfl, chkC_one h.1, chkC_RA h.1 .., chkC_RC h.1 ..⟩
    | succ j => simpa [avs, cells] using chkZ_RA h.2 j (by simpa using hj)
  | [], c :: s, h, _, _ => absurd h (by simp [chkZ])
  | v :: r, [], h, _, _ => absurd h (by simp [chkZ])

/-- The zero value of a type. -/
def chkZero (P : Program) (t : TypeId) (z : List Cst) : Bool :=
  match P.info? t with
  | some i => (match i.zero with
    | some v => chkZ v.cells.toList z && Nat.beq i.size z.length
    | none => false)
  | none => false
theorem chkZero_eq {t : TypeId} {z : List Cst} (h : chkZero P t z = true) : ∃ i v, P.info? t = some i ∧ i.zero = some v ∧ chkZ v.cells.toList z = true ∧ i.size = z.length := by
  unfold chkZero at h
  split at h
  case h_2 => exact absurd h (by decide)
  rename_i i hi
  split at h
  case h_2 => exact absurd h (by decide)
  rename_i v hv
  simp only [Bool.and_eq_true] at h
  exact ⟨i, v, hi, hv, h.1, beqN h.2⟩

theorem fold_set (l : List Value) : ∀ (k off : Nat) (cs : Array Value),
    ((l.zipIdx k).foldl (fun cs (c, j) => cs.setIfInBounds (off + j) c) cs).size = cs.size ∧
    ∀ m, ((l.zipIdx k).foldl (fun cs (c, j) => cs.setIfInBounds (off + j) c) cs)[m]? = if off + k ≤ m ∧ m < off + k + l.length ∧ m < cs.size then l[m - (off + k)]? else cs[m]? := by
  induction l with
  | nil => intro k off cs; exact ⟨rfl, fun m => by rw [if_neg (by simp; omega)]; rfl⟩
  | cons v l ih =>
    intro k off cs
    simp only [List.zipIdx_cons, List.foldl_cons]
    obtain ⟨h1, h2⟩ := ih (k + 1) off (cs.setIfInBounds (off + k) v)
    refine ⟨by rw [h1]; simp, fun m => ?_⟩
    rw [h2 m]
    simp only [Array.size_setIfInBounds, List.length_cons]
    by_cases hm : m = off + k
    · subst hm
      rw [if_neg (by omega)]
      by_cases hs : off + k < cs.size
      · rw [if_pos ⟨by omega, by omega, hs⟩, Nat.sub_self, Array.getElem?_setIfInBounds_self]
        simp [hs]
      · rw [if_neg (by omega), Array.getElem?_eq_none (by simp; omega), Array.getElem?_eq_none (by omega)]
    · by_cases hc : off + (k + 1) ≤ m ∧ m < off + (k + 1) + l.length ∧ m < cs.size
      · rw [if_pos hc, if_pos (by omega), show m - (off + k) = (m - (off + (k + 1))) + 1 by omega, List.getElem?_cons_succ]
      · rw [if_neg hc, if_neg (by omega), Array.getElem?_setIfInBounds_ne (by omega)]

def chkParts (P : Program) (t : TypeId) (n : Nat) : List (Nat × Operand) → List (Nat × Nat × Opd) → Bool
  | [], [] => true
  | (i, x) :: r, (off, size, y) :: s => decide (plc P t i = some (off, size)) && decide (off + size ≤ n) && chkX x y && chkParts P t n r s
  | _, _ => false

/-- Cells that read as f. -/
def Reads (be : Nm) (ga : Nat → Nat) (O : Nat → Prop) (w : World) (n : Nat) (f : Nat → AV) (cs : Array Value) : Prop :=
  cs.size = n ∧ ∀ j, j < n → ∃ u, cs[j]? = some u ∧ u.oneCell' = true ∧ RA be ga O w (f j) u

/-- A part laid in. -/
theorem Reads.fill {n : Nat} {f : Nat → AV} {cs : Array Value} (h : Reads be ga O w n f cs) {off m : Nat} {g : Nat → AV} {vs : Array Value} (hg : Reads be ga O w m g vs) (hle : off + m ≤ n) :
    Reads be ga O w n (fillF f off m g) (vs.zipIdx.foldl (fun cs (c, j) => cs.setIfInBounds (off + j) c) cs) := by
  obtain ⟨h1, h2⟩ := h
  obtain ⟨g1, g2⟩ := hg
  have hf := fold_set vs.toList 0 off cs
  have e : vs.zipIdx.foldl (fun cs (c, j) => cs.setIfInBounds (off + j) c) cs = (vs.toList.zipIdx 0).foldl (fun cs (c, j) => cs.setIfInBounds (off + j) c) cs := by
    rw [← Array.foldl_toList, Array.toList_zipIdx]
  rw [e]
  refine ⟨hf.1.trans h1, fun j hj => ?_⟩
  rw [hf.2 j]
  simp only [Nat.add_zero, Array.length_toList, Array.getElem?_toList]
  by_cases hc : off ≤ j ∧ j < off + m
  · rw [if_pos ⟨hc.1, by omega, by omega⟩]
    obtain ⟨u, hu, ho, hr⟩ := g2 (j - off) (by omega)
    refine ⟨u, hu, ho, ?_⟩
    have e1 : Nat.ble off j = true := Nat.ble_eq_true_of_le hc.1
    have e2 : Nat.ble (off + m) j = false := by
      cases hb : Nat.ble (off + m) j with
      | false => rfl
      | true => exact absurd (Nat.le_of_ble_eq_true hb) (by omega)
    simp only [fillF, e1, e2, cond_true, cond_false]
    exact hr
  · rw [if_neg (by omega)]
    obtain ⟨u, hu, ho, hr⟩ := h2 j hj
    refine ⟨u, hu, ho, ?_⟩
    unfold fillF
    cases hb : Nat.ble off j with
    | false => exact hr
    | true =>
      have e2 : Nat.ble (off + m) j = true := Nat.ble_eq_true_of_le (by have := Nat.le_of_ble_eq_true hb; omega)
      simp only [cond_true, e2]
      exact hr

theorem isOne_run {α : Type} {v : AV} {m : M α} {L : α → Prop} (h : (isOne v m).run L) : m.run L ∧ ∀ u, RA be ga O w v u → u.oneCell' = true := by
  unfold isOne at h
  split at h
  · exact ⟨h, fun u hu => RC_one hu⟩
  · exact ⟨h, fun u hu => by rw [show u = .slice none 0 0 from hu]; rfl⟩
  · exact ⟨h, fun u hu => by obtain ⟨p, cap, e, _⟩ := RA_os_val hu; rw [e]; rfl⟩
  · exact ⟨h, fun u hu => by obtain ⟨_, b, _, e⟩ := hu; rw [e]; rfl⟩
  · exact ⟨h, fun u hu => by obtain ⟨_, b, _, e⟩ := hu; rw [e]; rfl⟩
  · exact h.elim

theorem cells_one {u : Value} (h : u.oneCell' = true) : u.cells = #[u] := by
  cases u <;> first | rfl | exact absurd h (by simp [Value.oneCell'])

/-- A value's cells: an aggregate's, or the value itself. -/
theorem agg_reads {n : Nat} {g : Nat → AV} {u : Value} (h : RA be ga O w (.agg n g) u) : Reads be ga O w n g u.cells := by
  obtain ⟨cs, rfl, hn, hall⟩ := h
  exact ⟨hn, hall⟩
theorem one_reads {v : AV} {u : Value} (h1 : u.oneCell' = true) (h : RA be ga O w v u) : Reads be ga O w 1 (fun _ => v) u.cells := by
  rw [cells_one h1]
  exact ⟨rfl, fun j hj => ⟨u, by obtain rfl : j = 0 := by omega
                                 rfl, h1, h⟩⟩

theorem fillP_run {t : TypeId} {n : Nat} (hs : Slots be ga O w fr a) : ∀ (qs : List (Nat × Nat × Opd)) (ps : List (Nat × Operand)) (f : Nat → AV) (cs : Array Value) (L : (Nat → AV) → Prop),
    chkParts P t n ps qs = true → Reads be ga O w n f cs → (fillP cnd fr qs f).run L →
    ∃ g, L g ∧ (cnd → ∃ cs', Instr.fill (plc P t) cs (ps.map fun (i, x) => (i, a.eval x)) = some cs' ∧ Reads be ga O w n g cs') := by
  intro qs
  induction qs with
  | nil =>
    intro ps f cs L hc hr h
    cases ps with
    | nil => exact ⟨f, h, fun _ => ⟨cs, rfl, hr⟩⟩
    | cons => exact absurd hc (by simp [chkParts])
  | cons q qs ih =>
    intro ps f cs L hc hr h
    obtain ⟨off, size, y⟩ := q
    cases ps with
    | nil => exact absurd hc (by simp [chkParts])
    | cons p ps =>
      obtain ⟨i, x⟩ := p
      simp only [chkParts, Bool.and_eq_true, decide_eq_true_eq] at hc
      obtain ⟨⟨⟨hpl, hle⟩, hx⟩, hrest⟩ := hc
      simp only [fillP, M.run_bind] at h
      replace h := rd_sound hs hx h
      obtain ⟨v, h, hv⟩ := h
      -- one part, whatever it is
      have fin : ∀ (m : Nat) (g : Nat → AV), m = size → (cnd → Reads be ga O w m g (a.eval x).cells) → (fillP cnd fr qs (fillF f off m g)).run L →
          ∃ g, L g ∧ (cnd → ∃ cs', Instr.fill (plc P t) cs (((i, x) :: ps).map fun (i, x) => (i, a.eval x)) = some cs' ∧ Reads be ga O w n g cs') := by
        intro m g hm hg h'
        clear h
        subst hm
        by_cases hcnd : cnd
        · have hg := hg hcnd
          obtain ⟨g', hL, hg'⟩ := ih ps _ _ L hrest (hr.fill hg hle) h'
          refine ⟨g', hL, fun c => ?_⟩
          obtain ⟨cs', hf, hr'⟩ := hg' c
          refine ⟨cs', ?_, hr'⟩
          simp only [List.map_cons, Instr.fill, hpl]
          rw [if_neg (by simp; exact ⟨hg.1, by rw [hg.1, hr.1]; omega⟩)]
          exact hf
        · obtain ⟨g', _, hL⟩ := M.split h'
          exact ⟨_, hL, fun c => absurd c hcnd⟩
      split at h
      · rename_i m g
        rw [M.run_iff'] at h
        obtain ⟨hz, h⟩ := h
        have hz := beqN hz
        subst hz
        exact fin m g rfl (fun c => agg_reads (hv c)) h
      · rw [M.run_iff'] at h
        obtain ⟨hz, h⟩ := h
        have hz := beqN hz
        obtain ⟨h, h1⟩ := isOne_run (be := be) (ga := ga) (O := O) (w := w) h
        exact fin 1 (fun _ => v) hz (fun c => one_reads (h1 _ (hv c)) (hv c)) h

def cBuild (P : Program) (op : Op) (n : Nat) (z : List Cst) (parts : List (Nat × Nat × Opd)) : Bool :=
  match op with
  | .build t ps => chkZero P t z && okPlc P t && Nat.beq z.length n && chkParts P t n ps.toList parts
  | _ => false

theorem v_build {n : Nat} {z : List Cst} {parts : List (Nat × Nat × Opd)} (hs : Slots be ga O w fr a) (hc : cBuild P o.op n z parts = true) (h : (pv hp ga cnd fr (.build n z parts)).run K) : ∃ v, K v ∧ (cnd → Ex P a o w (RA be ga O w) v) := by
  unfold cBuild at hc
  split at hc
  case h_2 => exact absurd hc (by decide)
  rename_i t ps ho
  simp only [Bool.and_eq_true] at hc
  obtain ⟨⟨⟨hz, hpl⟩, hn⟩, hps⟩ := hc
  obtain ⟨i, zv, hi, hzv, hzz, hsz⟩ := chkZero_eq hz
  obtain rfl := beqN hn
  simp only [pv, M.run_bind] at h
  have hr0 : Reads be ga O w z.length (avs z) zv.cells := ⟨by have := chkZ_len hzz; simpa using this, fun j hj => by
    obtain ⟨u, hu, h1, hr, _⟩ := chkZ_RA (be := be) (ga := ga) (O := O) (w := w) hzz j hj
    exact ⟨u, by simpa using hu, h1, hr⟩⟩
  obtain ⟨g, hk, hg⟩ := fillP_run (P := P) (t := t) hs parts ps.toList (avs z) zv.cells _ hps hr0 h
  refine ⟨_, hk, fun c => ?_⟩
  obtain ⟨cs, hf, hcs1, hcs2⟩ := hg c
  have hb : P.built t (ps.map fun (i, x) => (i, a.eval x)).toList = some cs := by
    unfold okPlc at hpl
    unfold plc at hf
    unfold Program.built
    rw [hi, Array.toList_map]
    split at hpl
    · rename_i l e hu
      rw [hu] at hf ⊢
      obtain ⟨ie, hie⟩ := Option.isSome_iff_exists.1 hpl
      simp only [hzv, hie, Option.map_some] at hf ⊢
      exact hf
    · rename_i fs hu
      rw [hu] at hf ⊢
      obtain ⟨pl, hpl⟩ := Option.isSome_iff_exists.1 hpl
      simp only [hzv, hpl] at hf ⊢
      exact hf
    · exact absurd hpl (by decide)
  refine ⟨.agg cs, ?_, cs, rfl, hcs1, hcs2⟩
  have := run_build (P := P) w t (ps.map fun (i, x) => (i, a.eval x)) cs hb
  simp only [execOp, ho, Sem.run_bind, this, Result.andThen_ok, Sem.run_pure]

/-! all -/

def chkP (P : Program) (op : Op) : POp → Bool
  | .mov x => cMov op x
  | .por c b => cPor op c b
  | .pand c b => cPand op c b
  | .build n z parts => cBuild P op n z parts
  | .load1 x => cLoad1 P op x
  | .loadA m x => cLoadA P op m x
  | .loadR m x => cLoadA P op m x
  | .field off x => cField P op off x
  | .ixS size x i => cIxS P op size x i
  | .ixA size len x i => cIxA P op size len x i
  | .nilc x => cNilc op x
  | .bin b _ x y => cBin op b x y
  | .eqA neg ts x y => cEqA P op neg ts x y
  | .eqB neg x y => cEqB P op neg x y
  | .not x => cUn op .not x
  | .com x => cUn op .xor x
  | .conv _ k x => cConv P op k x
  | .b2s x => cB2s P op x
  | .slT x lo hi => cSlT P op x lo hi
  | .slS size x lo hi => cSlS P op size x lo hi
  | .slA size len x => cSlA P op size len x
  | .idx x i => cIdx P op x i
  | .idxA len x i => cIdxA P op len x i
  | .lenS x => cLen P op false x
  | .lenT x => cLen P op true x
  | .lenK n => cLenK P op n
  | .mm mx x xs => cMm op mx x xs
  | .extr i x => cExtr op i x

theorem pv_sound {p : POp} (hs : Slots be ga O w fr a) (he : Ents be ga O w B hp) (hc : chkP P o.op p = true) (h : (pv hp ga cnd fr p).run K) : ∃ v, K v ∧ (cnd → Ex P a o w (RA be ga O w) v) := by
  cases p with
  | mov x => exact v_mov hs hc h
  | por c b => exact v_por hs hc h
  | pand c b => exact v_pand hs hc h
  | build n z parts => exact v_build hs hc h
  | load1 x => exact v_load1 hs he hc h
  | loadA m x => exact v_loadA hs he hc h
  | loadR m x => exact v_loadR hs he hc h
  | field off x => exact v_field hs hc h
  | ixS size x i => exact v_ixS hs hc h
  | ixA size len x i => exact v_ixA hs hc h
  | nilc x => exact v_nilc hs hc h
  | bin b _ x y => exact v_bin hs hc h
  | eqA neg ts x y => exact v_eqA hs hc h
  | eqB neg x y => exact v_eqB hs hc h
  | not x => exact v_not hs hc h
  | com x => exact v_com hs hc h
  | conv _ k x => exact v_conv hs hc h
  | b2s x => exact v_b2s hs he hc h
  | slT x lo hi => exact v_slT hs hc h
  | slS size x lo hi => exact v_slS hs hc h
  | slA size len x => exact v_slA hs he hc h
  | idx x i => exact v_idx hs hc h
  | idxA len x i => exact v_idxA hs hc h
  | lenS x => exact v_lenS hs hc h
  | lenT x => exact v_lenT hs hc h
  | lenK n => exact v_lenK hc h
  | mm mx x xs => exact v_mm hs hc h
  | extr i x => exact v_extr hs hc h

end
end Lk
