/-
  The abstract machine, part 6: structs, lengths, bytes; all operations that make a value.
-/
import Derived.Test.YtbfhhfbblnkdhaaLk5
namespace Lk
open Go Go.RowKit
section
variable {P : Program} {be : Nm} {ga : Nat → Nat} {O : Nat → Prop} {w : World} {fr : Nat → AV} {hp : Nat → Option Ent} {a : Act} {o : Oper} {cnd : Prop} {K : AV → Prop} {B : Nat}

/-! equality of structs -/

def leavesF (F : TypeId → Option (List Nat)) (P : Program) : List Field → Nat → Option (List Nat)
  | [], _ => some []
  | f :: r, off => bif (f.name == "_") || !(Nat.beq f.offset off) then none else
    match F f.type with
    | none => none
    | some l => match P.info? f.type with
      | none => none
      | some i => bif Nat.beq i.size l.length && Nat.ble 1 l.length then (match leavesF F P r (off + l.length) with
        | none => none
        | some m => some (l ++ m)) else none

/-- The kinds of a type's leaves, if it is compared leaf by leaf. -/
def leaves (P : Program) : Nat → TypeId → Option (List Nat)
  | 0, _ => none
  | d + 1, t => match P.underlying t with
    | some (.int _) => some [0]
    | some .bool => some [1]
    | some .string => some [2]
    | some (.struct fs) => bif P.stoodInHeld t then none else leavesF (leaves P d) P fs.toList 0
    | _ => none

def lfEq (t : Nat) (x y : Value) (e : Bool) : Prop :=
  match t with
  | 0 => ∃ k m n, x = .int k m ∧ y = .int k n ∧ e = decide (m = n)
  | 1 => ∃ m n, x = .bool m ∧ y = .bool n ∧ e = (m == n)
  | 2 => ∃ m n : List UInt8, x = .string ⟨⟨m⟩⟩ ∧ y = .string ⟨⟨n⟩⟩ ∧ e = decide (m = n)
  | _ => False

def vOf (P : Program) (t : TypeId) (xs : Array Value) : Value := if isAggT P t = true then .agg xs else xs.getD 0 Go.undef

def Lvs (l : List Nat) (xs ys : Array Value) (E : Nat → Bool) : Prop :=
  ∀ (j t : Nat), l[j]? = some t → ∃ x y, xs[j]? = some x ∧ ys[j]? = some y ∧ lfEq t x y (E j)

theorem run_part {t : TypeId} {i : TypeInfo} (hi : P.info? t = some i) (hd : ∃ d, P.underlying t = some d) {xs : Array Value} {off : Nat} (hl : off + i.size ≤ xs.size) (hz : 0 < i.size) :
    (part t xs off).run P w = .ok (vOf P t (xs.extract off (off + i.size))) w := by
  obtain ⟨d, hd⟩ := hd
  unfold part vOf
  by_cases ha : isAggT P t = true
  · simp [run_isAgg_true ha, ha, run_sizeOf hi]
  · have h1 : isOneT P t = true := by
      unfold isAggT at ha
      unfold isOneT
      rw [hd] at ha ⊢
      cases d <;> simp_all
    have hx : xs[off]? = some (xs[off]'(by omega)) := Array.getElem?_eq_getElem (by omega)
    have hx2 : (xs.extract off (off + i.size)).getD 0 Go.undef = xs[off]'(by omega) := by
      rw [Array.getD_eq_getD_getElem?, Array.getElem?_extract, if_pos (by omega), Nat.add_zero, hx, Option.getD_some]
    simp [run_isAgg_false h1, ha, hx]
    rw [← hx2, Array.getD_eq_getD_getElem?]

theorem leaves_sound : ∀ (d : Nat) (t : TypeId) (l : List Nat), leaves P d t = some l → (∃ dd, P.underlying t = some dd) ∧ ∀ (D : Nat), d ≤ D → ∀ (xs ys : Array Value) (E : Nat → Bool), xs.size = l.length → ys.size = l.length →
    Lvs l xs ys E → (Op.equalIn D t (vOf P t xs) (vOf P t ys)).run P w = .ok ((List.range l.length).all E) w := by
  intro d
  induction d with
  | zero => intro t l h; exact absurd h (by simp [leaves])
  | succ d ih =>
    intro t l h
    unfold leaves at h
    split at h
    · rename_i k hu
      obtain rfl := Option.some.inj h
      refine ⟨⟨_, hu⟩, fun D hD xs ys E hx hy hl => ?_⟩
      obtain ⟨D, rfl⟩ : ∃ D', D = D' + 1 := ⟨D - 1, by omega⟩
      obtain ⟨x, y, hx', hy', k', m, n, rfl, rfl, he⟩ := hl 0 0 rfl
      have ha : ¬ isAggT P t = true := by simp [isAggT, hu]
      simp only [vOf, ha, if_false, Array.getD_eq_getD_getElem?, hx', hy', Option.getD_some, Bool.false_eq_true]
      rw [run_equalIn_int _ _ _ _ _ _ _ hu]
      simp [he]; rfl
    · rename_i hu
      obtain rfl := Option.some.inj h
      refine ⟨⟨_, hu⟩, fun D hD xs ys E hx hy hl => ?_⟩
      obtain ⟨D, rfl⟩ : ∃ D', D = D' + 1 := ⟨D - 1, by omega⟩
      obtain ⟨x, y, hx', hy', m, n, rfl, rfl, he⟩ := hl 0 1 rfl
      have ha : ¬ isAggT P t = true := by simp [isAggT, hu]
      simp only [vOf, ha, if_false, Array.getD_eq_getD_getElem?, hx', hy', Option.getD_some, Bool.false_eq_true]
      rw [run_equalIn_bool' _ _ _ _ _ hu]
      simp [he]
    · rename_i hu
      obtain rfl := Option.some.inj h
      refine ⟨⟨_, hu⟩, fun D hD xs ys E hx hy hl => ?_⟩
      obtain ⟨D, rfl⟩ : ∃ D', D = D' + 1 := ⟨D - 1, by omega⟩
      obtain ⟨x, y, hx', hy', m, n, rfl, rfl, he⟩ := hl 0 2 rfl
      have ha : ¬ isAggT P t = true := by simp [isAggT, hu]
      simp only [vOf, ha, if_false, Array.getD_eq_getD_getElem?, hx', hy', Option.getD_some, Bool.false_eq_true]
      rw [run_equalIn_string _ _ _ _ _ hu]
      simp [he, string_toList, list_beq]
    · rename_i fs hu
      refine ⟨⟨_, hu⟩, fun D hD xs ys E hx hy hl => ?_⟩
      obtain ⟨D, rfl⟩ : ∃ D', D = D' + 1 := ⟨D - 1, by omega⟩
      cases hh : P.stoodInHeld t with
      | true => rw [hh] at h; exact absurd h (by simp)
      | false =>
        rw [hh] at h
        simp only [cond_false] at h
        have ha : isAggT P t = true := by simp [isAggT, hu]
        have hf : P.fieldsOf t = fs := by simp [Program.fieldsOf, hu]
        simp only [vOf, ha, if_true]
        rw [run_equalIn_struct w D t xs ys (by rw [hf]; exact hu) hh, hf]
        -- field by field
        have main : ∀ (gs : List Field) (off : Nat) (m : List Nat), leavesF (leaves P d) P gs off = some m → off + m.length ≤ xs.size → off + m.length ≤ ys.size →
            (∀ (j t : Nat), m[j]? = some t → ∃ x y, xs[off + j]? = some x ∧ ys[off + j]? = some y ∧ lfEq t x y (E (off + j))) →
            (Op.eqFields D xs ys gs).run P w = .ok ((List.range m.length).all fun j => E (off + j)) w := by
          intro gs
          induction gs with
          | nil =>
            intro off m h _ _ _
            obtain rfl := Option.some.inj h
            simp [Op.eqFields]
          | cons f gs ihg =>
            intro off m h h1 h2 hm
            unfold leavesF at h
            cases hn : (f.name == "_") || !(Nat.beq f.offset off) with
            | true => rw [hn] at h; exact absurd h (by simp)
            | false =>
              rw [hn] at h
              simp only [cond_false] at h
              simp only [Bool.or_eq_false_iff, Bool.not_eq_false'] at hn
              obtain ⟨hnm, hoff⟩ := hn
              have hoff := beqN hoff
              split at h
              · exact absurd h (by simp)
              rename_i l1 hl1
              split at h
              · exact absurd h (by simp)
              rename_i i hi
              cases hsz : Nat.beq i.size l1.length && Nat.ble 1 l1.length with
              | false => rw [hsz] at h; exact absurd h (by simp)
              | true =>
                rw [hsz] at h
                simp only [cond_true] at h
                simp only [Bool.and_eq_true] at hsz
                have hpos : 0 < l1.length := Nat.le_of_ble_eq_true hsz.2
                have hsz := beqN hsz.1
                split at h
                · exact absurd h (by simp)
                rename_i m1 hm1
                obtain rfl := Option.some.inj h
                simp only [List.length_append] at h1 h2
                have hne : f.name ≠ "_" := by simpa using hnm
                obtain ⟨hdd, ihd⟩ := ih f.type l1 hl1
                unfold Op.eqFields
                simp only [hne, ne_eq, not_false_eq_true, if_true, Sem.run_bind]
                rw [hoff, run_part hi hdd (by omega) (by omega)]
                simp only [Result.andThen_ok]
                rw [run_part hi hdd (by omega) (by omega)]
                simp only [Result.andThen_ok]
                rw [ihd D (by omega) (xs.extract off (off + i.size)) (ys.extract off (off + i.size)) (fun j => E (off + j)) (by simp; omega) (by simp; omega)
                  (fun j t ht => by
                    have hj : j < l1.length := (List.getElem?_eq_some_iff.1 ht).1
                    obtain ⟨x, y, hx, hy, he⟩ := hm j t (by rw [List.getElem?_append_left hj]; exact ht)
                    refine ⟨x, y, ?_, ?_, he⟩
                    · rw [Array.getElem?_extract, if_pos (by omega), hx]
                    · rw [Array.getElem?_extract, if_pos (by omega), hy])]
                simp only [Result.andThen_ok]
                have rest := ihg (off + l1.length) m1 hm1 (by omega) (by omega) (fun j t ht => by
                  have := hm (l1.length + j) t (by rw [List.getElem?_append_right (by omega)]; simpa using ht)
                  simpa [Nat.add_assoc] using this)
                rw [List.length_append, List.range_add, List.all_append]
                cases hall : (List.range l1.length).all fun j => E (off + j) with
                | false => simp
                | true =>
                  simp [rest, List.all_map, Function.comp_def, Nat.add_assoc]
        have := main fs.toList 0 l h (by omega) (by omega) (fun j t ht => by simpa using hl j t ht)
        simpa using this
    · exact absurd h (by simp)

theorem eqC_run {t : Nat} {x y : AV} {L : Bool → Prop} (h : (eqC t x y).run L) : ∃ e, L e ∧ ∀ u v, RA be ga O w x u → RA be ga O w y v → lfEq t u v e := by
  unfold eqC at h
  split at h
  · replace h := asI_run h
    obtain ⟨k, m, rfl, h⟩ := h
    replace h := asI_run h
    obtain ⟨k', n, rfl, h⟩ := h
    rw [M.run_iff'] at h
    obtain ⟨hk, h⟩ := h
    refine ⟨_, h, fun u v hu hv => ⟨k, m, n, hu, ?_, rfl⟩⟩
    rw [isK_eq hk]; exact hv
  · replace h := asB_run h
    obtain ⟨m, rfl, h⟩ := h
    replace h := asB_run h
    obtain ⟨n, rfl, h⟩ := h
    exact ⟨_, h, fun u v hu hv => ⟨m, n, hu, hv, rfl⟩⟩
  · replace h := asS_run h
    obtain ⟨m, rfl, h⟩ := h
    replace h := asS_run h
    obtain ⟨n, rfl, h⟩ := h
    exact ⟨_, h, fun u v hu hv => ⟨m, n, hu, hv, rfl⟩⟩
  · exact h.elim

theorem eqCells_run : ∀ (l : List Nat) (j : Nat) (f g : Nat → AV) (L : Bool → Prop), (eqCells l j f g).run L →
    ∃ E : Nat → Bool, L ((List.range l.length).all E) ∧ ∀ (i t : Nat), l[i]? = some t → ∀ u v, RA be ga O w (f (j + i)) u → RA be ga O w (g (j + i)) v → lfEq t u v (E i)
  | [], j, f, g, L, h => ⟨fun _ => true, h, fun i t ht => absurd ht (by simp)⟩
  | t :: r, j, f, g, L, h => by
    simp only [eqCells, M.run_bind] at h
    replace h := eqC_run (be := be) (ga := ga) (O := O) (w := w) h
    obtain ⟨e, h, he⟩ := h
    have rest : ∃ E : Nat → Bool, L (e && (List.range r.length).all E) ∧ ∀ (i t : Nat), r[i]? = some t → ∀ u v, RA be ga O w (f (j + 1 + i)) u → RA be ga O w (g (j + 1 + i)) v → lfEq t u v (E i) := by
      cases r with
      | nil => exact ⟨fun _ => true, by have h' : L e := h; simpa using h', fun i t ht => absurd ht (by simp)⟩
      | cons t' r' =>
        simp only [M.run_bind] at h
        obtain ⟨E, h, hE⟩ := eqCells_run (t' :: r') (j + 1) f g _ h
        exact ⟨E, h, hE⟩
    obtain ⟨E, h, hE⟩ := rest
    refine ⟨fun i => match i with | 0 => e | i + 1 => E i, ?_, fun i t' ht => ?_⟩
    · rw [List.length_cons, List.range_succ_eq_map, List.all_cons, List.all_map]
      exact h
    · cases i with
      | zero =>
        obtain rfl : t = t' := by simpa using ht
        exact he
      | succ i =>
        have := hE i t' (by simpa using ht)
        rw [show j + (i + 1) = j + 1 + i by omega]
        exact this

def cEqA (P : Program) (op : Op) (neg : Bool) (ts : List Nat) (x y : Opd) : Bool :=
  match op with
  | .binOp b t x' y' _ => (bif neg then decide (b = .neq) else decide (b = .eql)) && isAggT P t && !(P.eqGuardType P.depth t) && decide (leaves P 8 t = some ts) && chkX x' x && chkX y' y
  | _ => false

theorem v_eqA {neg : Bool} {ts : List Nat} {x y : Opd} (hs : Slots be ga O w fr a) (hc : cEqA P o.op neg ts x y = true) (h : (pv hp ga cnd fr (.eqA neg ts x y)).run K) : ∃ v, K v ∧ (cnd → Ex P a o w (RA be ga O w) v) := by
  unfold cEqA at hc
  split at hc
  case h_2 => exact absurd hc (by decide)
  rename_i b' t x' y' yt ho
  simp only [Bool.and_eq_true, decide_eq_true_eq, Bool.not_eq_true'] at hc
  obtain ⟨⟨⟨⟨⟨hb, ha⟩, hg⟩, hl⟩, hx⟩, hy⟩ := hc
  simp only [pv, M.run_bind] at h
  replace h := rd_sound hs hx h
  obtain ⟨v, h, hv⟩ := h
  replace h := rd_sound hs hy h
  obtain ⟨u, h, hu⟩ := h
  unfold eqA at h
  split at h
  case h_2 => exact h.elim
  rename_i m f
  split at h
  case h_2 => exact h.elim
  rename_i m' g
  rw [M.run_iff', M.run_bind] at h
  obtain ⟨hm, h⟩ := h
  simp only [Bool.and_eq_true] at hm
  obtain ⟨E, h, hE⟩ := eqCells_run (be := be) (ga := ga) (O := O) (w := w) _ _ _ _ _ h
  refine ⟨_, h, fun c => ?_⟩
  obtain ⟨xs, e1, hxs, hx2⟩ := hv c
  obtain ⟨ys, e2, hys, hy2⟩ := hu c
  have hm1 := beqN hm.1
  have hm2 := beqN hm.2
  have run := (leaves_sound (P := P) (w := w) 8 t ts hl).2 10000 (by omega) xs ys E (by omega) (by omega) (fun j t ht => by
    have hj : j < ts.length := (List.getElem?_eq_some_iff.1 ht).1
    obtain ⟨p, hp1, _, hp2⟩ := hx2 j (by omega)
    obtain ⟨q, hq1, _, hq2⟩ := hy2 j (by omega)
    exact ⟨p, q, hp1, hq1, hE j t ht p q (by rw [Nat.zero_add]; exact hp2) (by rw [Nat.zero_add]; exact hq2)⟩)
  simp only [vOf, ha, if_true] at run
  cases neg
  · simp only [cond_false, decide_eq_true_eq] at hb
    subst hb
    refine ⟨.bool ((List.range ts.length).all E), ?_, rfl⟩
    simp only [execOp, ho, e1, e2, Sem.run_bind, run_eqGuard_agg w _ _ _ _ _ _ hg, Result.andThen_ok, run_eql_struct, run, Sem.run_pure]
  · simp only [cond_true, decide_eq_true_eq] at hb
    subst hb
    refine ⟨.bool (!(List.range ts.length).all E), ?_, rfl⟩
    simp only [execOp, ho, e1, e2, Sem.run_bind, run_eqGuard_agg w _ _ _ _ _ _ hg, Result.andThen_ok, run_neq_struct, run, Sem.run_pure]

/-! bytes as a string -/

def isU8T (P : Program) (t : TypeId) : Bool :=
  match P.underlying t with
  | some (.int .u8) => true
  | _ => false
theorem isU8T_eq {t : TypeId} (h : isU8T P t = true) : P.underlying t = some (.int .u8) := by
  unfold isU8T at h; split at h
  · assumption
  · exact absurd h (by decide)

def cB2s (P : Program) (op : Op) (x : Opd) : Bool :=
  match op with
  | .convert s d x' => (match slE P s with
    | some e => isU8T P e
    | none => false) && isStrT P d && chkX x' x
  | _ => false

theorem foldl_push (ns : List Int) : ∀ (s : List UInt8), ns.foldl (fun (r : ByteArray) n => r.push (UInt8.ofNat n.toNat)) ⟨⟨s⟩⟩ = ⟨⟨s ++ ns.map fun n => UInt8.ofNat n.toNat⟩⟩ := by
  induction ns with
  | nil => intro s; simp
  | cons n ns ih =>
    intro s
    rw [List.foldl_cons, show (⟨⟨s⟩⟩ : ByteArray).push (UInt8.ofNat n.toNat) = ⟨⟨s ++ [UInt8.ofNat n.toNat]⟩⟩ by simp [ByteArray.push], ih]
    simp

theorem isU8_val {x : Cell} (h : isU8 x) : ∃ n, x = .int .u8 n := by
  unfold isU8 at h; split at h
  · exact ⟨_, rfl⟩
  · exact h.elim

theorem v_b2s {x : Opd} (hs : Slots be ga O w fr a) (he : Ents be ga O w B hp) (hc : cB2s P o.op x = true) (h : (pv hp ga cnd fr (.b2s x)).run K) : ∃ v, K v ∧ (cnd → Ex P a o w (RA be ga O w) v) := by
  unfold cB2s at hc
  split at hc
  case h_2 => exact absurd hc (by decide)
  rename_i s d x' ho
  simp only [Bool.and_eq_true] at hc
  obtain ⟨⟨hsl, hd⟩, hx⟩ := hc
  split at hsl
  case h_2 => exact absurd hsl (by decide)
  rename_i e hse
  have hs1 := slE_eq hse
  have he1 := isU8T_eq hsl
  have hd1 := isStrT_eq hd
  simp only [pv, M.run_bind] at h
  replace h := rd_sound hs hx h
  obtain ⟨v, h, hv⟩ := h
  have run : ∀ (b off n cap : Nat) (f : Nat → Cell), a.eval x' = .slice (some ⟨b, off, none⟩) n cap → (∀ i, i < n → isU8 (f i) ∧ ∃ u, w.cell? ⟨b, off + i, none⟩ = some u ∧ RC O w (f i) u) →
      (execOp a.eval o).run P w = .ok (.value (.string ⟨⟨bytesOf n f⟩⟩)) w := by
    intro b off n cap f e1 hf
    let num : Nat → Int := fun i => match f i with | .int _ m => m | _ => 0
    have hl : (loadCells ⟨b, off, none⟩ n).run P w = .ok (((List.range n).map num).map (Value.int .u8)).toArray w := by
      rw [run_loadCells w ⟨b, off, none⟩ n (fun i => .int .u8 (num i)) (fun i hi => by
        obtain ⟨h1, u, hu, hr⟩ := hf i hi
        obtain ⟨m, hm⟩ := isU8_val h1
        rw [addr_add, hu]
        rw [hm] at hr
        have : num i = m := by show (match f i with | .int _ m => m | _ => 0) = m; rw [hm]
        rw [this]; exact congrArg some hr)]
      rw [List.map_map]; rfl
    simp only [execOp, ho, e1, Sem.run_bind, run_convert_bytes_string w s d e _ _ _ hs1 he1 hd1, run_bytesToString w _ _ _ _ hl, Result.andThen_ok, Sem.run_pure]
    congr 3
    rw [show ByteArray.empty = ⟨⟨[]⟩⟩ from rfl, foldl_push, List.nil_append, List.map_map]
    congr 2
    apply List.map_congr_left
    intro i hi
    obtain ⟨m, hm⟩ := isU8_val (hf i (by simpa using hi)).1
    simp only [Function.comp_def]
    show UInt8.ofNat (match f i with | .int _ m => m | _ => 0).toNat = toU8 (f i)
    rw [hm]; rfl
  have runNil : ∀ p, a.eval x' = .slice p 0 0 → (execOp a.eval o).run P w = .ok (.value (.string ⟨⟨[]⟩⟩)) w := by
    intro p e1
    simp only [execOp, ho, e1, Sem.run_bind, run_convert_bytes_string w s d e _ _ _ hs1 he1 hd1]
    cases p with
    | none => simp [Conv.bytesToString]; rfl
    | some p => simp [Conv.bytesToString, loadCells, loadCellsFrom]; rfl
  unfold b2s at h
  split at h
  · exact ⟨_, h, fun c => ⟨_, runNil none (hv c), rfl⟩⟩
  · rename_i sz n f
    rw [M.run_iff', M.run_need] at h
    obtain ⟨z, hu8, h⟩ := h
    obtain rfl := beqN z
    refine ⟨_, h, fun c => ?_⟩
    rcases hv c with ⟨hn, p, e1⟩ | ⟨b, off, cap, e1, _, _, hcells⟩
    · subst hn
      exact ⟨_, runNil p e1, rfl⟩
    · refine ⟨_, run b off n cap (fun i => f i 0) e1 (fun i hi => ⟨hu8 i hi, ?_⟩), rfl⟩
      obtain ⟨_, u, hu, hr⟩ := hcells i hi 0 (by omega)
      exact ⟨u, by simpa using hu, hr⟩
  · rename_i s' q sz off len
    replace h := getE_run h
    obtain ⟨hq, e', hse', h⟩ := h
    rw [M.run_iff', M.run_need] at h
    obtain ⟨z, hle, h⟩ := h
    simp only [Bool.and_eq_true] at z
    have z1 := beqN z.1
    obtain rfl := beqN z.2
    split at h
    · rename_i cc hcc
      refine ⟨_, h.r, fun c => ?_⟩
      have hu8 := h.l
      obtain ⟨_, hv⟩ := hv c
      subst hq
      rcases hv with ⟨_, _, rfl, e1⟩ | ⟨b, oo, cap, cs, el, fz, hb, e1, hc1, hc2, hc3, hh, hc4⟩
      · exact ⟨_, runNil none e1, rfl⟩
      · refine ⟨_, run b oo len cap (fun i => cc (off + i) 0) e1 (fun i hi => ⟨hu8 i hi, ?_⟩), rfl⟩
        obtain ⟨u, hu, _, hr⟩ := ent_at he hse' hb (row := off + i) (col := 0) (by omega) (by omega)
        rw [hcc] at hr
        rw [hc3 (by omega)]
        exact ⟨u, by rw [z1] at hu; simpa using hu, hr⟩
    · exact h.elim
  · exact h.elim

/-! an array as a slice -/

def cSlA (P : Program) (op : Op) (size len : Nat) (x : Opd) : Bool :=
  match op with
  | .slice t x' none none none => (match P.underlying t with
    | some (.array l e) => Nat.beq l len && szT P e size
    | _ => false) && decide (len ≤ 1000000) && chkX x' x
  | _ => false

theorem v_slA {size len : Nat} {x : Opd} (hs : Slots be ga O w fr a) (he : Ents be ga O w B hp) (hc : cSlA P o.op size len x = true) (h : (pv hp ga cnd fr (.slA size len x)).run K) : ∃ v, K v ∧ (cnd → Ex P a o w (RA be ga O w) v) := by
  unfold cSlA at hc
  split at hc
  case h_2 => exact absurd hc (by decide)
  rename_i t x' ho
  simp only [Bool.and_eq_true] at hc
  obtain ⟨⟨ht, hlen⟩, hx⟩ := hc
  split at ht
  case h_2 => exact absurd ht (by decide)
  rename_i l e hu
  simp only [Bool.and_eq_true] at ht
  obtain rfl := beqN ht.1
  obtain ⟨inf, hinf, hsz⟩ := szT_eq ht.2
  simp only [decide_eq_true_eq] at hlen
  simp only [pv, M.run_bind] at h
  replace h := rd_sound hs hx h
  obtain ⟨v, h, hv⟩ := h
  unfold slA at h
  split at h
  · rename_i s q sz row col
    replace h := getE_run h
    obtain ⟨hq, e', hse', h⟩ := h
    rw [M.run_iff', M.run_need] at h
    simp only [Bool.and_eq_true] at h
    obtain ⟨⟨⟨⟨z, z1⟩, z2⟩, z3⟩, hn, h⟩ := h
    obtain rfl := beqN z
    obtain rfl := beqN z1
    obtain rfl := beqN z2
    have z3 := beqN z3
    refine ⟨_, h, fun c => ?_⟩
    obtain ⟨hq', b, hb, e1⟩ := hv c
    subst hq
    rcases he s e' hse' with ⟨h0, _⟩ | ⟨b', cs, el, fz, h1, h2, h3, h4⟩
    · rw [hb] at h0; exact absurd h0 (by simp)
    · rw [hb] at h1
      obtain rfl := Option.some.inj h1
      refine ⟨.slice (some ⟨b, 0, none⟩) l l, ?_, hq', Or.inr ⟨b, 0, l, cs, el, fz, hb, rfl, Nat.le_refl _, by omega, fun _ => by omega, h3, ?_⟩⟩
      · subst hsz
        simp [execOp, ho, e1, Instr.sliceAt, Instr.sureAddr, run_underlying hu, Instr.sliceBounds, run_sizeOf hinf, Addr.add]
      · have := h4.fit
        rw [hn, z3] at this
        omega
  · exact h.elim

/-! an element of an array by value -/

def cIdxA (P : Program) (op : Op) (len : Nat) (x i : Opd) : Bool :=
  match op with
  | .index t x' i' => (match P.underlying t with
    | some (.array l e) => Nat.beq l len && szT P e 1 && isOneT P e
    | _ => false) && chkX x' x && chkX i' i
  | _ => false

theorem v_idxA {len : Nat} {x i : Opd} (hs : Slots be ga O w fr a) (hc : cIdxA P o.op len x i = true) (h : (pv hp ga cnd fr (.idxA len x i)).run K) : ∃ v, K v ∧ (cnd → Ex P a o w (RA be ga O w) v) := by
  unfold cIdxA at hc
  split at hc
  case h_2 => exact absurd hc (by decide)
  rename_i t x' i' ho
  simp only [Bool.and_eq_true] at hc
  obtain ⟨⟨ht, hx⟩, hi⟩ := hc
  split at ht
  case h_2 => exact absurd ht (by decide)
  rename_i l e hu
  simp only [Bool.and_eq_true] at ht
  obtain ⟨⟨hl, hsz⟩, hone⟩ := ht
  obtain rfl := beqN hl
  obtain ⟨inf, hinf, hsz⟩ := szT_eq hsz
  simp only [pv, M.run_bind] at h
  replace h := rd_sound hs hx h
  obtain ⟨v, h, hv⟩ := h
  replace h := rd_sound hs hi h
  obtain ⟨u, h, hu'⟩ := h
  replace h := asI_run h
  obtain ⟨k, n, rfl, h⟩ := h
  split at h
  · rename_i m f
    rw [M.run_iff', M.run_need] at h
    obtain ⟨hm, ⟨h0, h1⟩, h⟩ := h
    have hm := Nat.le_of_ble_eq_true hm
    refine ⟨_, h, fun c => ?_⟩
    obtain ⟨cs, e1, hcs, hall⟩ := hv c
    have e2 := hu' c
    simp only [RA, RC] at e2
    obtain ⟨y, hy, _, hr⟩ := hall n.toNat (by omega)
    refine ⟨y, ?_, hr⟩
    simp [execOp, ho, e1, e2, Instr.index, asIntOf, run_underlying hu, h0, h1, run_sizeOf hinf, hsz, part, run_isAgg_false hone, hy]
  · exact h.elim

/-! lengths -/

def isSlT (P : Program) (t : TypeId) : Bool := (slE P t).isSome

def cLen (P : Program) (op : Op) (str : Bool) (x : Opd) : Bool :=
  match op with
  | .call c => (match c.callee with
    | .builtin .len => true
    | _ => false) && (match c.args.toList with
    | [x'] => chkX x' x
    | _ => false) && (match c.argTypes.toList with
    | [t] => bif str then isStrT P t else isSlT P t
    | _ => false)
  | _ => false

theorem toList_one {α : Type} {xs : Array α} {x : α} (h : xs.toList = [x]) : xs = #[x] := by
  cases xs; simp only at h; rw [h]

theorem builtin_len {c : Call} {x' : Operand} {t : TypeId} (hc : c.callee = .builtin .len) (ha : c.args = #[x']) (ht : c.argTypes = #[t]) (ho : o.op = .call c) {u : Value}
    (h : ∀ ty, (Builtin.len_ #[t] ty #[a.eval x']).run P w = .ok u w) : (execOp a.eval o).run P w = .ok (.value u) w := by
  simp [execOp, ho, resolve, hc, ha, ht, invoke, builtin, h]

theorem cLen_run {str : Bool} {x : Opd} (hc : cLen P o.op str x = true) : ∃ x' t, chkX x' x = true ∧ (bif str then isStrT P t else isSlT P t) = true ∧
    ∀ u, (∀ ty, (Builtin.len_ #[t] ty #[a.eval x']).run P w = .ok u w) → (execOp a.eval o).run P w = .ok (.value u) w := by
  unfold cLen at hc
  split at hc
  case h_2 => exact absurd hc (by decide)
  rename_i c ho
  simp only [Bool.and_eq_true] at hc
  obtain ⟨⟨hcal, harg⟩, hty⟩ := hc
  split at hcal
  case h_2 => exact absurd hcal (by decide)
  rename_i hcal'
  split at harg
  case h_2 => exact absurd harg (by decide)
  rename_i x' hx'
  split at hty
  case h_2 => exact absurd hty (by decide)
  rename_i t ht
  exact ⟨x', t, harg, hty, fun u => builtin_len (P := P) (a := a) (w := w) (u := u) hcal' (toList_one hx') (toList_one ht) ho⟩

theorem v_lenT {x : Opd} (hs : Slots be ga O w fr a) (hc : cLen P o.op true x = true) (h : (pv hp ga cnd fr (.lenT x)).run K) : ∃ v, K v ∧ (cnd → Ex P a o w (RA be ga O w) v) := by
  obtain ⟨x', t, hx, hty, run⟩ := cLen_run (P := P) (a := a) (w := w) hc
  simp only [pv, M.run_bind] at h
  replace h := rd_sound hs hx h
  obtain ⟨v, h, hv⟩ := h
  replace h := asS_run h
  obtain ⟨l, rfl, h⟩ := h
  refine ⟨_, h, fun c => ⟨_, run _ fun ty => ?_, rfl⟩⟩
  have e1 := hv c
  simp only [RA, RC] at e1
  simp [Builtin.len_, e1, run_underlying (isStrT_eq hty), goInt, bytes_size]

theorem v_lenS {x : Opd} (hs : Slots be ga O w fr a) (hc : cLen P o.op false x = true) (h : (pv hp ga cnd fr (.lenS x)).run K) : ∃ v, K v ∧ (cnd → Ex P a o w (RA be ga O w) v) := by
  obtain ⟨x', t, hx, hty, run⟩ := cLen_run (P := P) (a := a) (w := w) hc
  simp only [pv, M.run_bind] at h
  replace h := rd_sound hs hx h
  obtain ⟨v, h, hv⟩ := h
  obtain ⟨e, he⟩ := Option.isSome_iff_exists.1 (show (slE P t).isSome = true from hty)
  have rslice : ∀ p n cap, a.eval x' = .slice p n cap → (execOp a.eval o).run P w = .ok (.value (.int .i64 n)) w := fun p n cap e1 =>
    run _ (fun ty => by simp [Builtin.len_, e1, run_underlying (slE_eq he), goInt])
  unfold lenV at h
  split at h
  · refine ⟨_, h, fun c => ?_⟩
    obtain ⟨p, cap, e1, _⟩ := RC_sl_val (hv c)
    exact ⟨_, rslice _ _ _ e1, rfl⟩
  · exact ⟨_, h, fun c => ⟨_, rslice _ _ _ (hv c), rfl⟩⟩
  · refine ⟨_, h, fun c => ?_⟩
    obtain ⟨p, cap, e1, _⟩ := RA_os_val (hv c)
    exact ⟨_, rslice _ _ _ e1, rfl⟩
  · exact h.elim

def cLenK (P : Program) (op : Op) (n : Nat) : Bool :=
  match op with
  | .call c => (match c.callee with
    | .builtin .len => true
    | _ => false) && (match c.args.toList with
    | [_] => true
    | _ => false) && (match c.argTypes.toList with
    | [t] => (match P.underlying t with
      | some (.array l _) => Nat.beq l n
      | _ => false)
    | _ => false)
  | _ => false

theorem v_lenK {n : Nat} (hc : cLenK P o.op n = true) (h : (pv hp ga cnd fr (.lenK n)).run K) : ∃ v, K v ∧ (cnd → Ex P a o w (RA be ga O w) v) := by
  unfold cLenK at hc
  split at hc
  case h_2 => exact absurd hc (by decide)
  rename_i c ho
  simp only [Bool.and_eq_true] at hc
  obtain ⟨⟨hcal, harg⟩, hty⟩ := hc
  split at hcal
  case h_2 => exact absurd hcal (by decide)
  rename_i hcal'
  split at harg
  case h_2 => exact absurd harg (by decide)
  rename_i x' hx'
  split at hty
  case h_2 => exact absurd hty (by decide)
  rename_i t ht
  split at hty
  case h_2 => exact absurd hty (by decide)
  rename_i l e hu
  obtain rfl := beqN hty
  refine ⟨_, h, fun c => ⟨_, builtin_len (P := P) (a := a) (w := w) hcal' (toList_one hx') (toList_one ht) ho fun ty => ?_, rfl⟩⟩
  simp [Builtin.len_, run_underlying hu, goInt]

/-! min, max -/

def chkXs : List Operand → List Opd → Bool
  | [], [] => true
  | x :: r, y :: s => chkX x y && chkXs r s
  | _, _ => false

def cMm (op : Op) (mx : Bool) (x : Opd) (xs : List Opd) : Bool :=
  match op with
  | .call c => (match c.callee with
    | .builtin .max => mx
    | .builtin .min => !mx
    | _ => false) && chkXs c.args.toList (x :: xs)
  | _ => false

theorem foldlM_run {f : Value → Value → Sem Value} {mx : Bool} (hf : ∀ k x k' y, (f (.int k x) (.int k' y)).run P w = .ok (.int k (bif mx then max x y else min x y)) w) (hs : Slots be ga O w fr a) (k : IntKind) :
    ∀ (ys : List Opd) (xs : List Operand) (m : Int), chkXs xs ys = true → (mmL cnd fr mx k m ys).run K → ∃ v, K v ∧ (cnd → ∃ n, ((xs.map a.eval).foldlM f (.int k m)).run P w = .ok (.int k n) w ∧ v = .c (.int k n)) := by
  intro ys
  induction ys with
  | nil =>
    intro xs m hc h
    cases xs with
    | nil => exact ⟨_, h, fun _ => ⟨m, by simp, rfl⟩⟩
    | cons => exact absurd hc (by simp [chkXs])
  | cons y ys ih =>
    intro xs m hc h
    cases xs with
    | nil => exact absurd hc (by simp [chkXs])
    | cons x xs =>
      simp only [chkXs, Bool.and_eq_true] at hc
      simp only [mmL, M.run_bind] at h
      replace h := rd_sound hs hc.1 h
      obtain ⟨v, h, hv⟩ := h
      replace h := asI_run h
      obtain ⟨k', n, rfl, h⟩ := h
      obtain ⟨v, hk, hr⟩ := ih xs _ hc.2 h
      refine ⟨v, hk, fun c => ?_⟩
      obtain ⟨r, hr, e⟩ := hr c
      have e1 := hv c
      simp only [RA, RC] at e1
      exact ⟨r, by simp [e1, hf, hr], e⟩

theorem v_mm {mx : Bool} {x : Opd} {xs : List Opd} (hs : Slots be ga O w fr a) (hc : cMm o.op mx x xs = true) (h : (pv hp ga cnd fr (.mm mx x xs)).run K) : ∃ v, K v ∧ (cnd → Ex P a o w (RA be ga O w) v) := by
  unfold cMm at hc
  split at hc
  case h_2 => exact absurd hc (by decide)
  rename_i c ho
  simp only [Bool.and_eq_true] at hc
  obtain ⟨hcal, harg⟩ := hc
  cases hargs : c.args.toList with
  | nil => rw [hargs] at harg; exact absurd harg (by simp [chkXs])
  | cons y ys =>
    rw [hargs] at harg
    simp only [chkXs, Bool.and_eq_true] at harg
    have hargs' : c.args = (y :: ys).toArray := by rw [← hargs]
    simp only [pv, M.run_bind] at h
    replace h := rd_sound hs harg.1 h
    obtain ⟨v, h, hv⟩ := h
    replace h := asI_run h
    obtain ⟨k, n, rfl, h⟩ := h
    split at hcal
    · rename_i hcal'
      subst hcal
      obtain ⟨v, hk, hr⟩ := foldlM_run (P := P) (w := w) (f := Builtin.max2) (mx := true) (fun k x k' y => by simp only [Builtin.max2, Sem.run_pure, cond_true]; congr 2; split <;> omega) hs k xs ys n harg.2 h
      refine ⟨v, hk, fun cc => ?_⟩
      obtain ⟨r, hr, e⟩ := hr cc
      have e1 := hv cc
      simp only [RA, RC] at e1
      refine ⟨_, ?_, by rw [e]; rfl⟩
      simp [execOp, ho, resolve, hcal', hargs', invoke, builtin, Builtin.max_, e1, hr]
    · rename_i hcal'
      have hmx : mx = false := by simpa using hcal
      subst hmx
      obtain ⟨v, hk, hr⟩ := foldlM_run (P := P) (w := w) (f := Builtin.min2) (mx := false) (fun k x k' y => by simp only [Builtin.min2, Sem.run_pure, cond_false]; congr 2; split <;> omega) hs k xs ys n harg.2 h
      refine ⟨v, hk, fun cc => ?_⟩
      obtain ⟨r, hr, e⟩ := hr cc
      have e1 := hv cc
      simp only [RA, RC] at e1
      refine ⟨_, ?_, by rw [e]; rfl⟩
      simp [execOp, ho, resolve, hcal', hargs', invoke, builtin, Builtin.min_, e1, hr]
    · exact absurd hcal (by decide)

/-! parts of a tuple -/

def cExtr (op : Op) (i : Nat) (x : Opd) : Bool :=
  match op with
  | .extract x' i' => Nat.beq i' i && chkX x' x
  | _ => false

theorem v_extr {i : Nat} {x : Opd} (hs : Slots be ga O w fr a) (hc : cExtr o.op i x = true) (h : (pv hp ga cnd fr (.extr i x)).run K) : ∃ v, K v ∧ (cnd → Ex P a o w (RA be ga O w) v) := by
  unfold cExtr at hc
  split at hc
  case h_2 => exact absurd hc (by decide)
  rename_i x' i' ho
  simp only [Bool.and_eq_true] at hc
  obtain ⟨hi, hx⟩ := hc
  obtain rfl := beqN hi
  simp only [pv, M.run_bind] at h
  replace h := rd_sound hs hx h
  obtain ⟨v, h, hv⟩ := h
  split at h
  · rename_i n f
    rw [M.run_iff'] at h
    have hn := Nat.le_of_ble_eq_true h.1
    refine ⟨_, h.2, fun c => ?_⟩
    obtain ⟨cs, e1, hcs, hall⟩ := hv c
    obtain ⟨u, hu, hr⟩ := hall i' (by omega)
    exact ⟨u, by simp [execOp, ho, e1, Instr.extract, hu], hr⟩
  · exact h.elim

end
end Lk
