/-
  The abstract machine, part 5: numbers, strings, equality, slices: checked, and sound; all operations that make a value.
-/
import Derived.Test.YtbfhhfbblnkdhaaLk4
import Derived.Laws.Strings2
namespace Lk
open Go Go.RowKit
section
variable {P : Program} {be : Nm} {ga : Nat → Nat} {O : Nat → Prop} {w : World} {fr : Nat → AV} {hp : Nat → Option Ent} {a : Act} {o : Oper} {cnd : Prop} {K : AV → Prop} {B : Nat}

/-! numbers -/

theorem binI_run {op : BinOp} {chk : Bool} {k : IntKind} {x y : Int} (h : (binI op chk k x y).run K) :
    ∃ v u, K v ∧ (∀ t, (binOp op t (.int k x) (.int k y)).run P w = .ok u w) ∧ RA be ga O w v u := by
  unfold binI at h
  split at h
  · cases chk
    · exact ⟨_, _, h, fun t => by simp [wrapI_eq, binOp, Op.intArith], rfl⟩
    · exact ⟨_, _, h.r, fun t => by simp [binOp, Op.intArith, wrap_rng h.l], rfl⟩
  · cases chk
    · exact ⟨_, _, h, fun t => by simp [wrapI_eq, binOp, Op.intArith], rfl⟩
    · exact ⟨_, _, h.r, fun t => by simp [binOp, Op.intArith, wrap_rng h.l], rfl⟩
  · cases chk
    · exact ⟨_, _, h, fun t => by simp [wrapI_eq, binOp, Op.intArith], rfl⟩
    · exact ⟨_, _, h.r, fun t => by simp [binOp, Op.intArith, wrap_rng h.l], rfl⟩
  · have h0 := h.l
    have hr := h.r.l
    refine ⟨_, _, h.r.r, fun t => ?_, rfl⟩
    have e1 : y ≠ 0 := by omega
    have e2 : x.tdiv y = x / y := Int.tdiv_eq_ediv_of_nonneg h0.1
    simp [binOp, Op.intDiv, e1, e2, wrap_rng hr]
  · have h0 := h.l
    refine ⟨_, _, h.r, fun t => ?_, rfl⟩
    have e1 : y ≠ 0 := by omega
    have e2 : x.tmod y = x % y := Int.tmod_eq_emod_of_nonneg h0.1
    simp [binOp, Op.intDiv, e1, e2]
  · exact ⟨_, _, h, fun t => by simp [binOp, Op.intBits, bitI_eq, bitI0], rfl⟩
  · exact ⟨_, _, h, fun t => by simp [binOp, Op.intBits, bitI_eq, bitI0], rfl⟩
  · exact ⟨_, _, h, fun t => by simp [binOp, Op.intBits, bitI_eq, bitI0], rfl⟩
  · exact ⟨_, _, h, fun t => by simp [binOp, Op.intCmp]; rfl, rfl⟩
  · exact ⟨_, _, h, fun t => by simp [binOp, Op.intCmp]; rfl, rfl⟩
  · exact ⟨_, _, h, fun t => by simp [binOp, Op.intCmp], rfl⟩
  · exact ⟨_, _, h, fun t => by simp [binOp, Op.intCmp], rfl⟩
  · exact ⟨_, _, h, fun t => by simp [binOp, Op.intCmp], rfl⟩
  · exact ⟨_, _, h, fun t => by simp [binOp, Op.intCmp], rfl⟩
  · exact h.elim

theorem binA_run {op : BinOp} {chk : Bool} {k k' : IntKind} {x y : Int} (h : (binA op chk k x k' y).run K) :
    ∃ v u, K v ∧ (∀ t, (binOp op t (.int k x) (.int k' y)).run P w = .ok u w) ∧ RA be ga O w v u := by
  unfold binA at h
  split at h
  · exact ⟨_, _, h.r, fun t => by have : ¬ y < 0 := by have := h.l; omega
                                  simp [binOp, Op.shift, this, shlI_eq], rfl⟩
  · exact ⟨_, _, h.r, fun t => by have : ¬ y < 0 := by have := h.l; omega
                                  simp [binOp, Op.shift, this, shrI_eq], rfl⟩
  all_goals first
    | exact h.elim
    | (rw [M.run_iff'] at h; rw [← isK_eq h.1]; exact binI_run h.2)

theorem list_beq (x y : List UInt8) : (x == y) = decide (x = y) := by
  rw [Bool.eq_iff_iff]; simp

theorem string_toList (l : List UInt8) : (⟨⟨l⟩⟩ : ByteArray).toList = l := ByteArray.toList_mk l

theorem binS_run {op : BinOp} {x y : List UInt8} (h : (binS op x y).run K) :
    ∃ v u, K v ∧ (∀ t, (binOp op t (.string ⟨⟨x⟩⟩) (.string ⟨⟨y⟩⟩)).run P w = .ok u w) ∧ RA be ga O w v u := by
  unfold binS at h
  split at h
  · refine ⟨_, _, h.r, fun t => ?_, rfl⟩
    rw [binOp_string_add, run_string_add_sum _ _ _ (by have := h.l; show x.length + y.length ≤ _; omega)]
    exact congrArg (fun s => Result.ok (Value.string s) w) (ByteArray.mk_append_mk x y)
  · exact ⟨_, _, h, fun t => by rw [binOp_string_eql, string_toList, string_toList]; rfl, by simp [RA, RC, list_beq]⟩
  · exact ⟨_, _, h, fun t => by rw [binOp_string_neq, string_toList, string_toList]; rfl, by simp [RA, RC, list_beq]⟩
  · exact h.elim

def cBin (op : Op) (b : BinOp) (x y : Opd) : Bool :=
  match op with
  | .binOp b' _ x' y' _ => decide (b' = b) && chkX x' x && chkX y' y
  | _ => false

theorem eqGuard_int (op : BinOp) (t : TypeId) (x y : Operand) (k : IntKind) (n : Int) (v : Value) : (eqGuard op t x y (.int k n) v).run P w = .ok () w := by
  cases op <;> simp [eqGuard]
theorem eqGuard_str (op : BinOp) (t : TypeId) (x y : Operand) (s : ByteArray) (v : Value) : (eqGuard op t x y (.string s) v).run P w = .ok () w := by
  cases op <;> simp [eqGuard]
theorem eqGuard_bool (op : BinOp) (t : TypeId) (x y : Operand) (s : Bool) (v : Value) : (eqGuard op t x y (.bool s) v).run P w = .ok () w := by
  cases op <;> simp [eqGuard]

theorem v_bin {op : BinOp} {chk : Bool} {x y : Opd} (hs : Slots be ga O w fr a) (hc : cBin o.op op x y = true) (h : (pv hp ga cnd fr (.bin op chk x y)).run K) : ∃ v, K v ∧ (cnd → Ex P a o w (RA be ga O w) v) := by
  unfold cBin at hc
  split at hc
  case h_2 => exact absurd hc (by decide)
  rename_i b' t x' y' yt ho
  simp only [Bool.and_eq_true, decide_eq_true_eq] at hc
  obtain ⟨⟨rfl, hx⟩, hy⟩ := hc
  simp only [pv, M.run_bind] at h
  replace h := rd_sound hs hx h
  obtain ⟨v, h, hv⟩ := h
  replace h := rd_sound hs hy h
  obtain ⟨u, h, hu⟩ := h
  unfold bin at h
  split at h
  · replace h := asI_run h
    obtain ⟨k', n, rfl, h⟩ := h
    replace h := binA_run (P := P) (be := be) (ga := ga) (O := O) (w := w) h
    obtain ⟨v, u, hk, hrun, hr⟩ := h
    refine ⟨v, hk, fun c => ⟨u, ?_, hr⟩⟩
    have e1 := hv c
    have e2 := hu c
    simp only [RA, RC] at e1 e2
    simp [execOp, ho, e1, e2, eqGuard_int, hrun]
  · replace h := asS_run h
    obtain ⟨n, rfl, h⟩ := h
    replace h := binS_run (P := P) (be := be) (ga := ga) (O := O) (w := w) h
    obtain ⟨v, u, hk, hrun, hr⟩ := h
    refine ⟨v, hk, fun c => ⟨u, ?_, hr⟩⟩
    have e1 := hv c
    have e2 := hu c
    simp only [RA, RC] at e1 e2
    simp [execOp, ho, e1, e2, eqGuard_str, hrun]
  · exact h.elim

def isBoolT (P : Program) (t : TypeId) : Bool :=
  match P.underlying t with
  | some .bool => true
  | _ => false

def cEqB (P : Program) (op : Op) (neg : Bool) (x y : Opd) : Bool :=
  match op with
  | .binOp b t x' y' _ => (bif neg then decide (b = .neq) else decide (b = .eql)) && isBoolT P t && chkX x' x && chkX y' y
  | _ => false

theorem v_eqB {neg : Bool} {x y : Opd} (hs : Slots be ga O w fr a) (hc : cEqB P o.op neg x y = true) (h : (pv hp ga cnd fr (.eqB neg x y)).run K) : ∃ v, K v ∧ (cnd → Ex P a o w (RA be ga O w) v) := by
  unfold cEqB at hc
  split at hc
  case h_2 => exact absurd hc (by decide)
  rename_i b' t x' y' yt ho
  simp only [Bool.and_eq_true] at hc
  obtain ⟨⟨⟨hb, ht⟩, hx⟩, hy⟩ := hc
  have ht' : P.underlying t = some .bool := by
    unfold isBoolT at ht; split at ht
    · assumption
    · exact absurd ht (by decide)
  simp only [pv, M.run_bind] at h
  replace h := rd_sound hs hx h
  obtain ⟨v, h, hv⟩ := h
  replace h := asB_run h
  obtain ⟨p, rfl, h⟩ := h
  rw [M.run_bind] at h
  replace h := rd_sound hs hy h
  obtain ⟨u, h, hu⟩ := h
  replace h := asB_run h
  obtain ⟨q, rfl, h⟩ := h
  refine ⟨_, h, fun c => ?_⟩
  have e1 := hv c
  have e2 := hu c
  simp only [RA, RC] at e1 e2
  cases neg
  · simp only [cond_false, decide_eq_true_eq] at hb
    subst hb
    refine ⟨.bool (p == q), ?_, rfl⟩
    simp [execOp, ho, e1, e2, eqGuard_bool, binOp, Op.equal, Op.maxDepth, run_equalIn_bool' _ _ _ _ _ ht']
  · simp only [cond_true, decide_eq_true_eq] at hb
    subst hb
    refine ⟨.bool (!(p == q)), ?_, rfl⟩
    simp [execOp, ho, e1, e2, eqGuard_bool, binOp, Op.equal, Op.maxDepth, run_equalIn_bool' _ _ _ _ _ ht']

def cUn (op : Op) (u : UnOp) (x : Opd) : Bool :=
  match op with
  | .unOp u' _ x' => decide (u' = u) && chkX x' x
  | _ => false

theorem v_not {x : Opd} (hs : Slots be ga O w fr a) (hc : cUn o.op .not x = true) (h : (pv hp ga cnd fr (.not x)).run K) : ∃ v, K v ∧ (cnd → Ex P a o w (RA be ga O w) v) := by
  unfold cUn at hc
  split at hc
  case h_2 => exact absurd hc (by decide)
  rename_i u' t x' ho
  simp only [Bool.and_eq_true, decide_eq_true_eq] at hc
  obtain ⟨rfl, hx⟩ := hc
  simp only [pv, M.run_bind] at h
  replace h := rd_sound hs hx h
  obtain ⟨v, h, hv⟩ := h
  replace h := asB_run h
  obtain ⟨p, rfl, h⟩ := h
  refine ⟨_, h, fun c => ?_⟩
  have e1 := hv c
  simp only [RA, RC] at e1
  exact ⟨_, by simp [execOp, ho, e1, Op.unary], rfl⟩

theorem v_com {x : Opd} (hs : Slots be ga O w fr a) (hc : cUn o.op .xor x = true) (h : (pv hp ga cnd fr (.com x)).run K) : ∃ v, K v ∧ (cnd → Ex P a o w (RA be ga O w) v) := by
  unfold cUn at hc
  split at hc
  case h_2 => exact absurd hc (by decide)
  rename_i u' t x' ho
  simp only [Bool.and_eq_true, decide_eq_true_eq] at hc
  obtain ⟨rfl, hx⟩ := hc
  simp only [pv, M.run_bind] at h
  replace h := rd_sound hs hx h
  obtain ⟨v, h, hv⟩ := h
  replace h := asI_run h
  obtain ⟨k, n, rfl, h⟩ := h
  refine ⟨_, h, fun c => ?_⟩
  have e1 := hv c
  simp only [RA, RC] at e1
  refine ⟨_, by simp [execOp, ho, e1, Op.unary, Op.intBits]; rfl, ?_⟩
  simp [RA, RC, comI_eq, bitI0]
  cases k.signed <;> simp

def kindT (P : Program) (t : TypeId) (k : IntKind) : Bool :=
  match P.underlying t with
  | some (.int k') => isK k' k
  | _ => false
theorem kindT_eq {t : TypeId} {k : IntKind} (h : kindT P t k = true) : P.underlying t = some (.int k) := by
  unfold kindT at h; split at h
  · rename_i h'; rw [h', isK_eq h]
  · exact absurd h (by decide)

def cConv (P : Program) (op : Op) (k : IntKind) (x : Opd) : Bool :=
  match op with
  | .convert s d x' => kindT P d k && (P.underlying s).isSome && chkX x' x
  | _ => false

theorem v_conv {chk : Bool} {k : IntKind} {x : Opd} (hs : Slots be ga O w fr a) (hc : cConv P o.op k x = true) (h : (pv hp ga cnd fr (.conv chk k x)).run K) : ∃ v, K v ∧ (cnd → Ex P a o w (RA be ga O w) v) := by
  unfold cConv at hc
  split at hc
  case h_2 => exact absurd hc (by decide)
  rename_i s d x' ho
  simp only [Bool.and_eq_true] at hc
  obtain ⟨⟨hk, hs'⟩, hx⟩ := hc
  obtain ⟨ds, hds⟩ := Option.isSome_iff_exists.1 hs'
  have hd := kindT_eq hk
  simp only [pv, M.run_bind] at h
  replace h := rd_sound hs hx h
  obtain ⟨v, h, hv⟩ := h
  replace h := asI_run h
  obtain ⟨k0, n, rfl, h⟩ := h
  have run : cnd → (execOp a.eval o).run P w = .ok (.value (.int k (wrapI k n))) w := fun c => by
    have e1 := hv c
    simp only [RA, RC] at e1
    simp [execOp, ho, e1, convert, run_underlying hds, run_underlying hd, Conv.intToInt, wrapI_eq]
  cases chk
  · exact ⟨_, h, fun c => ⟨_, run c, rfl⟩⟩
  · exact ⟨_, h.r, fun c => ⟨_, run c, by rw [wrapI_eq, wrap_rng h.l]; rfl⟩⟩

/-! strings -/

def isStrT (P : Program) (t : TypeId) : Bool :=
  match P.underlying t with
  | some .string => true
  | _ => false
theorem isStrT_eq {t : TypeId} (h : isStrT P t = true) : P.underlying t = some .string := by
  unfold isStrT at h; split at h
  · assumption
  · exact absurd h (by decide)

def cSlT (P : Program) (op : Op) (x : Opd) (lo hi : Option Opd) : Bool :=
  match op with
  | .slice t x' lo' hi' none => isStrT P t && chkX x' x && chkO lo' lo && chkO hi' hi
  | _ => false

/-- A bound that may lack. -/
def OB (a : Act) (x : Option Operand) (n : Option Int) : Prop :=
  match n with
  | none => x.map a.eval = none
  | some n => ∃ k, x.map a.eval = some (.int k n)

theorem optI_run {α : Type} {L : α → Prop} (hs : Slots be ga O w fr a) {x : Option Operand} {y : Option Opd} (hc : chkO x y = true) {f : Option Int → M α} (h : (optI cnd fr y f).run L) :
    ∃ n, (cnd → OB a x n) ∧ (f n).run L := by
  unfold optI at h
  cases y with
  | none =>
    refine ⟨none, fun _ => ?_, h⟩
    cases x with
    | none => rfl
    | some x => exact absurd hc (by simp [chkO])
  | some y =>
    cases x with
    | none => exact absurd hc (by simp [chkO])
    | some x =>
      simp only [M.run_bind] at h
      replace h := rd_sound hs (x := x) hc h
      obtain ⟨v, h, hv⟩ := h
      replace h := asI_run h
      obtain ⟨k, n, rfl, h⟩ := h
      exact ⟨some n, fun c => ⟨k, congrArg some (hv c)⟩, h⟩

theorem bytes_extract (l : List UInt8) (x y : Nat) : (⟨⟨l⟩⟩ : ByteArray).extract x y = ⟨⟨(l.take y).drop x⟩⟩ := by
  have := ByteArray.extract_mk l x y
  rw [show (⟨⟨l⟩⟩ : ByteArray) = ByteArray.mk l.toArray from rfl, this, List.drop_take]

theorem bytes_size (l : List UInt8) : (⟨⟨l⟩⟩ : ByteArray).size = l.length := rfl

theorem v_slT {x : Opd} {lo hi : Option Opd} (hs : Slots be ga O w fr a) (hc : cSlT P o.op x lo hi = true) (h : (pv hp ga cnd fr (.slT x lo hi)).run K) : ∃ v, K v ∧ (cnd → Ex P a o w (RA be ga O w) v) := by
  unfold cSlT at hc
  split at hc
  case h_2 => exact absurd hc (by decide)
  rename_i t x' lo' hi' ho
  simp only [Bool.and_eq_true] at hc
  obtain ⟨⟨⟨ht, hx⟩, hlo⟩, hhi⟩ := hc
  have ht' := isStrT_eq ht
  simp only [pv, M.run_bind] at h
  replace h := rd_sound hs hx h
  obtain ⟨v, h, hv⟩ := h
  replace h := asS_run h
  obtain ⟨l, rfl, h⟩ := h
  replace h := optI_run hs hlo h
  obtain ⟨n1, h1, h⟩ := h
  replace h := optI_run hs hhi h
  obtain ⟨n2, h2, h⟩ := h
  have e1 : cnd → a.eval x' = .string ⟨⟨l⟩⟩ := fun c => hv c
  have sl : ∀ lo hi mx, (Instr.sliceAt t (.string ⟨⟨l⟩⟩) lo hi mx).run P w = (Instr.slice t (.string ⟨⟨l⟩⟩) lo hi mx).run P w := fun lo hi mx => run_sliceAt_string w t _ lo hi mx ht'
  unfold slT at h
  split at h
  · refine ⟨_, h, fun c => ⟨_, ?_, rfl⟩⟩
    have e2 := h1 c
    have e3 := h2 c
    simp only [OB] at e2 e3
    simp only [execOp, ho, e1 c, e2, e3, Sem.run_bind, sl, Option.map_none]
    rw [run_slice_string_all _ _ _ ht', bytes_extract, bytes_size]
    simp
  · rename_i hh
    refine ⟨_, h.r, fun c => ⟨_, ?_, rfl⟩⟩
    have hl := h.l
    have e2 := h1 c
    obtain ⟨k, e3⟩ := h2 c
    simp only [OB] at e2
    simp only [execOp, ho, e1 c, e2, e3, Sem.run_bind, sl, Option.map_none]
    rw [run_slice_string_h w t ⟨⟨l⟩⟩ ht' k _ hl.1 hl.2, bytes_extract]
    simp
  · rename_i aa
    refine ⟨_, h.r, fun c => ⟨_, ?_, rfl⟩⟩
    have hl := h.l
    obtain ⟨k, e2⟩ := h1 c
    have e3 := h2 c
    simp only [OB] at e3
    simp only [execOp, ho, e1 c, e2, e3, Sem.run_bind, sl, Option.map_none]
    rw [run_slice_string_l w t ⟨⟨l⟩⟩ ht' k _ hl.1 hl.2, bytes_extract, bytes_size]
    simp
  · rename_i aa hh
    refine ⟨_, h.r, fun c => ⟨_, ?_, rfl⟩⟩
    obtain ⟨l1, l2, l3⟩ := h.l
    obtain ⟨k, e2⟩ := h1 c
    obtain ⟨k', e3⟩ := h2 c
    have t1 : 0 ≤ hh := by omega
    have t3 : hh ≤ ((⟨⟨l⟩⟩ : ByteArray).size : Int) := l3
    have t2 : aa ≤ (hh.toNat : Int) := by omega
    simp only [execOp, ho, e1 c, e2, e3, Sem.run_bind, sl, Option.map_none]
    simp [Instr.slice, run_underlying ht', Instr.sliceBounds, run_sliceBound _ _ _ _ _ t1 t3, run_sliceBound _ _ _ _ _ l1 t2, bytes_extract]

def cIdx (P : Program) (op : Op) (x i : Opd) : Bool :=
  match op with
  | .index t x' i' => isStrT P t && chkX x' x && chkX i' i
  | _ => false

theorem v_idx {x i : Opd} (hs : Slots be ga O w fr a) (hc : cIdx P o.op x i = true) (h : (pv hp ga cnd fr (.idx x i)).run K) : ∃ v, K v ∧ (cnd → Ex P a o w (RA be ga O w) v) := by
  unfold cIdx at hc
  split at hc
  case h_2 => exact absurd hc (by decide)
  rename_i t x' i' ho
  simp only [Bool.and_eq_true] at hc
  obtain ⟨⟨ht, hx⟩, hi⟩ := hc
  have ht' := isStrT_eq ht
  simp only [pv, M.run_bind] at h
  replace h := rd_sound hs hx h
  obtain ⟨v, h, hv⟩ := h
  replace h := asS_run h
  obtain ⟨l, rfl, h⟩ := h
  rw [M.run_bind] at h
  replace h := rd_sound hs hi h
  obtain ⟨u, h, hu⟩ := h
  replace h := asI_run h
  obtain ⟨k, n, rfl, h⟩ := h
  refine ⟨_, h.r, fun c => ⟨_, ?_, rfl⟩⟩
  have e1 := hv c
  have e2 := hu c
  simp only [RA, RC] at e1 e2
  obtain ⟨h0, h1⟩ := h.l
  have hn : n.toNat < l.length := by omega
  have hg : (⟨⟨l⟩⟩ : ByteArray)[n.toNat]? = some (l.getD n.toNat 0) := by
    rw [ByteArray.getElem?_lt' _ _ hn, List.getD_eq_getElem?_getD, List.getElem?_eq_getElem hn]; rfl
  simp [execOp, ho, e1, e2, Instr.index, asIntOf, run_underlying ht', h0, hg]

/-! slices -/

def cSlS (P : Program) (op : Op) (size : Nat) (x : Opd) (lo hi : Option Opd) : Bool :=
  match op with
  | .slice t x' lo' hi' none => slT' P t size && chkX x' x && chkO lo' lo && chkO hi' hi
  | _ => false

/-- A slice sliced anew, as the model does it. -/
theorem run_slS {t e : TypeId} {i : TypeInfo} (hu : P.underlying t = some (.slice e)) (hi : P.info? e = some i) {lo hi' : Option Value} {p : Option Addr} {len cap : Nat} {l h : Nat}
    (hb : (Instr.sliceBounds true len cap lo hi' none).run P w = .ok (l, h, cap) w) :
    (Instr.sliceAt t (.slice p len cap) lo hi' none).run P w = .ok (.slice (if cap = l then p else p.map (·.add (l * i.size))) (h - l) (cap - l)) w := by
  simp only [Instr.sliceAt, Instr.slice, Sem.run_bind, run_underlying hu, Result.andThen_ok, hb, run_sizeOf hi, Sem.run_pure]

theorem run_bounds {n1 n2 : Option Int} {x y : Option Operand} (h1 : OB a x n1) (h2 : OB a y n2) {len cap : Nat} (hlc : len ≤ cap) (hb : 0 ≤ n1.getD 0 ∧ n1.getD 0 ≤ n2.getD len ∧ n2.getD len ≤ len) :
    (Instr.sliceBounds true len cap (x.map a.eval) (y.map a.eval) none).run P w = .ok ((n1.getD 0).toNat, (n2.getD len).toNat, cap) w := by
  unfold Instr.sliceBounds
  cases n2 with
  | none =>
    rw [show y.map a.eval = none from h2]
    simp only [Option.getD_none] at hb ⊢
    cases n1 with
    | none => rw [show x.map a.eval = none from h1]; simp
    | some m =>
      obtain ⟨k, hk⟩ := h1
      rw [hk]
      simp only [Option.getD_some] at hb ⊢
      simp [run_sliceBound _ k m _ _ hb.1 hb.2.1]
  | some m2 =>
    obtain ⟨k2, hk2⟩ := h2
    rw [hk2]
    simp only [Option.getD_some] at hb ⊢
    have t0 : 0 ≤ m2 := by omega
    have t1 : m2 ≤ (cap : Int) := by omega
    cases n1 with
    | none => rw [show x.map a.eval = none from h1]; simp [run_sliceBound _ k2 m2 _ _ t0 t1]
    | some m =>
      obtain ⟨k, hk⟩ := h1
      rw [hk]
      simp only [Option.getD_some] at hb ⊢
      have t2 : m ≤ (m2.toNat : Int) := by omega
      simp [run_sliceBound _ k2 m2 _ _ t0 t1, run_sliceBound _ k m _ _ hb.1 t2]

/-- Pure data sliced. -/
theorem RC_slice {size n : Nat} {f : Nat → Nat → Cell} {p : Option Addr} {len cap l h : Nat} (hr : RC O w (.sl size n f) (.slice p len cap)) (hl : l ≤ h) (hh : h ≤ n) :
    RC O w (.sl size (h - l) fun i => f (l + i)) (.slice (if cap = l then p else p.map (·.add (l * size))) (h - l) (cap - l)) := by
  rcases hr with ⟨hn, p', hv⟩ | ⟨b, off, cap', hv, hc1, hc2, hcells⟩
  · simp only [Value.slice.injEq] at hv
    obtain ⟨rfl, rfl, rfl⟩ := hv
    refine Or.inl ⟨by omega, ?_⟩
    have : l = 0 := by omega
    have : h = 0 := by omega
    subst_vars
    exact ⟨_, rfl⟩
  · simp only [Value.slice.injEq] at hv
    obtain ⟨rfl, rfl, rfl⟩ := hv
    by_cases hcl : cap = l
    · refine Or.inr ⟨b, off, cap - l, by rw [if_pos hcl], by omega, by omega, fun i hi => by omega⟩
    · refine Or.inr ⟨b, off + l * size, cap - l, by rw [if_neg hcl]; simp [addr_add], by omega, by omega, fun i hi j hj => ?_⟩
      have := hcells (l + i) (by omega) j hj
      rw [Nat.add_mul] at this
      rw [show off + l * size + i * size + j = off + (l * size + i * size) + j by omega]
      exact this

theorem RA_slice {s q size off n : Nat} {p : Option Addr} {len cap l h : Nat} (hr : RA be ga O w (.os s q size off n) (.slice p len cap)) (hl : l ≤ h) (hh : h ≤ n) :
    RA be ga O w (.os s q size (off + l) (h - l)) (.slice (if cap = l then p else p.map (·.add (l * size))) (h - l) (cap - l)) := by
  obtain ⟨hq, hr⟩ := hr
  refine ⟨hq, ?_⟩
  rcases hr with ⟨hb, ho, hn, hv⟩ | ⟨b, oo, cap', cs, el, fz, hb, hv, hc1, hc2, hc3, hh', hc4⟩
  · simp only [Value.slice.injEq] at hv
    obtain ⟨rfl, rfl, rfl⟩ := hv
    have : l = 0 := by omega
    have : h = 0 := by omega
    subst_vars
    exact Or.inl ⟨hb, rfl, rfl, rfl⟩
  · simp only [Value.slice.injEq] at hv
    obtain ⟨rfl, rfl, rfl⟩ := hv
    by_cases hcl : cap = l
    · exact Or.inr ⟨b, oo, cap - l, cs, el, fz, hb, by rw [if_pos hcl], by omega, by omega, fun h0 => by omega, hh', by rw [hcl, Nat.sub_self, Nat.zero_mul]; omega⟩
    · refine Or.inr ⟨b, oo + l * size, cap - l, cs, el, fz, hb, by rw [if_neg hcl]; simp [addr_add], by omega, by omega, fun _ => by rw [hc3 (by omega), Nat.add_mul], hh', ?_⟩
      have : cap * size = l * size + (cap - l) * size := by rw [← Nat.add_mul]; congr 1; omega
      omega

theorem RC_sl_val {size n : Nat} {f : Nat → Nat → Cell} {u : Value} (h : RC O w (.sl size n f) u) : ∃ p cap, u = .slice p n cap ∧ n ≤ cap := by
  rcases h with ⟨rfl, p, rfl⟩ | ⟨b, off, cap, rfl, h, _⟩
  · exact ⟨_, _, rfl, Nat.le_refl _⟩
  · exact ⟨_, _, rfl, h⟩

theorem RA_os_val {s q size off n : Nat} {u : Value} (h : RA be ga O w (.os s q size off n) u) : ∃ p cap, u = .slice p n cap ∧ n ≤ cap := by
  rcases h.2 with ⟨_, _, rfl, rfl⟩ | ⟨b, off, cap, cs, el, fz, _, rfl, h, _⟩
  · exact ⟨_, _, rfl, Nat.le_refl _⟩
  · exact ⟨_, _, rfl, h⟩

theorem v_slS {size : Nat} {x : Opd} {lo hi : Option Opd} (hs : Slots be ga O w fr a) (hc : cSlS P o.op size x lo hi = true) (h : (pv hp ga cnd fr (.slS size x lo hi)).run K) : ∃ v, K v ∧ (cnd → Ex P a o w (RA be ga O w) v) := by
  unfold cSlS at hc
  split at hc
  case h_2 => exact absurd hc (by decide)
  rename_i t x' lo' hi' ho
  simp only [Bool.and_eq_true] at hc
  obtain ⟨⟨⟨ht, hx⟩, hlo⟩, hhi⟩ := hc
  obtain ⟨e, inf, hu, hinf, hsz⟩ := slT'_eq ht
  simp only [pv, M.run_bind] at h
  replace h := rd_sound hs hx h
  obtain ⟨v, h, hv⟩ := h
  replace h := optI_run hs hlo h
  obtain ⟨n1, h1, h⟩ := h
  replace h := optI_run hs hhi h
  obtain ⟨n2, h2, h⟩ := h
  have run : ∀ p len cap, cnd → a.eval x' = .slice p len cap → len ≤ cap → (0 ≤ n1.getD 0 ∧ n1.getD 0 ≤ n2.getD len ∧ n2.getD len ≤ len) →
      (execOp a.eval o).run P w = .ok (.value (.slice (if cap = (n1.getD 0).toNat then p else p.map (·.add ((n1.getD 0).toNat * size))) ((n2.getD len).toNat - (n1.getD 0).toNat) (cap - (n1.getD 0).toNat))) w := by
    intro p len cap c e1 hlc hb
    subst hsz
    simp only [execOp, ho, e1, Option.map_none, Sem.run_bind, run_slS hu hinf (run_bounds (P := P) (w := w) (h1 c) (h2 c) hlc hb), Result.andThen_ok, Sem.run_pure]
  unfold slS at h
  split at h
  · rename_i sz n f
    rw [M.run_iff'] at h
    obtain ⟨z, h⟩ := h
    obtain rfl := beqN z
    have fin : ∀ v', K v' → (v' = .c (.sl sz ((n2.getD n).toNat - (n1.getD 0).toNat) fun i => f ((n1.getD 0).toNat + i))) → (0 ≤ n1.getD 0 ∧ n1.getD 0 ≤ n2.getD n ∧ n2.getD n ≤ n) → ∃ v, K v ∧ (cnd → Ex P a o w (RA be ga O w) v) := by
      intro v' hk hv' hb
      refine ⟨v', hk, fun c => ?_⟩
      have hr := hv c
      obtain ⟨p, cap, e1, hlc⟩ := RC_sl_val hr
      refine ⟨_, run p n cap c e1 hlc hb, ?_⟩
      rw [hv']
      rw [e1] at hr
      exact RC_slice hr (by omega) (by omega)
    split at h
    · exact fin _ h (by simp) (by simp)
    · exact fin _ h.r (by simp) (by simpa using h.l)
    · exact fin _ h.r (by simp) (by simpa using h.l)
    · exact fin _ h.r (by simp) (by simpa using h.l)
  · rename_i s q sz off n
    rw [M.run_iff'] at h
    obtain ⟨z, h⟩ := h
    obtain rfl := beqN z
    have fin : ∀ v', K v' → (v' = .os s q sz (off + (n1.getD 0).toNat) ((n2.getD n).toNat - (n1.getD 0).toNat)) → (0 ≤ n1.getD 0 ∧ n1.getD 0 ≤ n2.getD n ∧ n2.getD n ≤ n) → ∃ v, K v ∧ (cnd → Ex P a o w (RA be ga O w) v) := by
      intro v' hk hv' hb
      refine ⟨v', hk, fun c => ?_⟩
      have hr := hv c
      obtain ⟨p, cap, e1, hlc⟩ := RA_os_val hr
      refine ⟨_, run p n cap c e1 hlc hb, ?_⟩
      rw [hv']
      rw [e1] at hr
      exact RA_slice hr (by omega) (by omega)
    split at h
    · exact fin _ h (by simp) (by simp)
    · exact fin _ h.r (by simp) (by simpa using h.l)
    · exact fin _ h.r (by simp) (by simpa using h.l)
    · exact fin _ h.r (by simp) (by simpa using h.l)
  · exact h.elim

end
end Lk
