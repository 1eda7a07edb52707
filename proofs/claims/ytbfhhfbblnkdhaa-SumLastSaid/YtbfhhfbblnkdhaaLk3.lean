/-
  The abstract machine, part 3: what is checked of an operation that makes a value, and that the model then makes the value that the machine reckons.
-/
import Derived.Test.YtbfhhfbblnkdhaaLk2
import Derived.Laws.Cells
import Derived.Laws.Slices
import Derived.Laws.BytesString
import Derived.Laws.Strings
import Derived.Laws.Concat
import Derived.Laws.StructEq
import Derived.Laws.MakeOwn
import Derived.Laws.AppendOwn
namespace Lk
open Go Go.RowKit

section M
variable {α β : Type} {K : α → Prop} {L : β → Prop}
theorem M.run_ret (x : α) : (M.ret x).run K ↔ K x := Iff.rfl
theorem M.run_no : (M.no : M α).run K ↔ False := Iff.rfl
theorem M.run_need (p : Prop) (m : M α) : (M.need p m).run K ↔ (p ∧ m.run K) := ⟨fun h => ⟨h.l, h.r⟩, fun h => ⟨h.1, h.2⟩⟩
theorem M.run_imp (c p : Prop) (m : M α) : (M.imp c p m).run K ↔ ((c → p) ∧ m.run K) := ⟨fun h => ⟨h.l, h.r⟩, fun h => ⟨h.1, h.2⟩⟩
theorem M.run_bind (m : M α) (f : α → M β) : (m.bind f).run L ↔ m.run (fun x => (f x).run L) := by
  induction m with
  | no => exact Iff.rfl
  | ret x => exact Iff.rfl
  | need p m ih => rw [M.bind, M.run_need, M.run_need, ih]
  | imp c p m ih => rw [M.bind, M.run_imp, M.run_imp, ih]
theorem M.run_iff' (b : Bool) (m : M α) : (iff' b m).run K ↔ (b = true ∧ m.run K) := by
  cases b <;> simp [iff', M.run]
theorem M.mono {K' : α → Prop} {m : M α} (h : m.run K) (hk : ∀ x, K x → K' x) : m.run K' := by
  induction m with
  | no => exact h
  | ret x => exact hk _ h
  | need p m ih => exact ⟨h.l, ih h.r⟩
  | imp c p m ih => exact ⟨h.l, ih h.r⟩
/-- What is said of every value of m holds of the one that is gone on with. -/
theorem M.split {m : M α} (h : m.run K) : ∃ x, m.run (fun y => y = x) ∧ K x := by
  induction m with
  | no => exact h.elim
  | ret x => exact ⟨x, rfl, h⟩
  | need p m ih => obtain ⟨x, h1, h2⟩ := ih h.r; exact ⟨x, ⟨h.l, h1⟩, h2⟩
  | imp c p m ih => obtain ⟨x, h1, h2⟩ := ih h.r; exact ⟨x, ⟨h.l, h1⟩, h2⟩
end M

theorem asI_run {α : Type} {v : AV} {f : IntKind → Int → M α} {K : α → Prop} (h : (asI v f).run K) : ∃ k n, v = .c (.int k n) ∧ (f k n).run K := by
  unfold asI at h; split at h
  · exact ⟨_, _, rfl, h⟩
  · exact h.elim
theorem asB_run {α : Type} {v : AV} {f : Bool → M α} {K : α → Prop} (h : (asB v f).run K) : ∃ b, v = .c (.bool b) ∧ (f b).run K := by
  unfold asB at h; split at h
  · exact ⟨_, rfl, h⟩
  · exact h.elim
theorem asS_run {α : Type} {v : AV} {f : List UInt8 → M α} {K : α → Prop} (h : (asS v f).run K) : ∃ b, v = .c (.str b) ∧ (f b).run K := by
  unfold asS at h; split at h
  · exact ⟨_, rfl, h⟩
  · exact h.elim

theorem rd_run {cnd : Prop} {fr : Nat → AV} {x : Opd} {K : AV → Prop} (h : (rd cnd fr x).run K) :
    ∃ v, K v ∧ (cnd → ∀ be ga O w u, RA be ga O w (opd fr x) u → RA be ga O w v u) := by
  unfold rd rdv at h
  split at h
  case h_1 p v hv => exact ⟨v, h.r, fun hc be ga O w u hu => by rw [hv] at hu; exact hu.1 (h.l hc)⟩
  all_goals
    rename_i hv
    exact ⟨_, h, fun _ be ga O w u hu => by rw [hv] at hu; exact hu⟩

theorem beqN {a b : Nat} (h : Nat.beq a b = true) : a = b := Nat.eq_of_beq_eq_true h

theorem isK_eq {k k' : IntKind} (h : isK k k' = true) : k = k' := by
  cases k <;> cases k' <;> first | rfl | (exfalso; revert h; decide)

/-! ### Operands -/

def chkC : Value → Cst → Bool
  | .int k n, .int k' n' => isK k k' && decide (n = n')
  | .bool b, .bool b' => b == b'
  | .string s, .str l => decide (s.data.toList = l)
  | .slice none n c, .nil _ => Nat.beq n 0 && Nat.beq c 0
  | _, _ => false

def chkX : Operand → Opd → Bool
  | .tmp t, .t k => Nat.beq t k
  | .const v, .k c => chkC v c
  | .func f, .k (.fn g) => Nat.beq f g
  | _, _ => false

theorem chkC_RA {v : Value} {c : Cst} (h : chkC v c = true) (be : Nm) (ga : Nat → Nat) (O : Nat → Prop) (w : World) : RA be ga O w c.av v := by
  unfold chkC at h
  split at h
  · rename_i k n k' n'
    simp only [Bool.and_eq_true, decide_eq_true_eq] at h
    obtain ⟨h1, rfl⟩ := h
    rw [isK_eq h1]; exact rfl
  · simp only [beq_iff_eq] at h; subst h; exact rfl
  · rename_i s l
    simp only [decide_eq_true_eq] at h
    subst h
    exact rfl
  · rename_i n c _
    simp only [Bool.and_eq_true] at h
    obtain rfl := beqN h.1
    obtain rfl := beqN h.2
    exact rfl
  · exact absurd h (by decide)

theorem chkC_one {v : Value} {c : Cst} (h : chkC v c = true) : v.oneCell' = true := by
  unfold chkC at h
  split at h <;> first | rfl | exact absurd h (by decide)

theorem chkC_RC {v : Value} {c : Cst} (h : chkC v c = true) (O : Nat → Prop) (w : World) : RC O w c.cell v := by
  unfold chkC at h
  split at h
  · rename_i k n k' n'
    simp only [Bool.and_eq_true, decide_eq_true_eq] at h
    obtain ⟨h1, rfl⟩ := h
    rw [isK_eq h1]; exact rfl
  · simp only [beq_iff_eq] at h; subst h; exact rfl
  · rename_i s l
    simp only [decide_eq_true_eq] at h
    subst h
    exact rfl
  · rename_i n c _
    simp only [Bool.and_eq_true] at h
    obtain rfl := beqN h.1
    obtain rfl := beqN h.2
    exact Or.inl ⟨rfl, _, rfl⟩
  · exact absurd h (by decide)

/-- What the slots read as. -/
def Slots (be : Nm) (ga : Nat → Nat) (O : Nat → Prop) (w : World) (fr : Nat → AV) (a : Act) : Prop :=
  ∀ k, RA be ga O w (fr k) (a.tmps.getD k Go.undef)

theorem chkX_RA {be : Nm} {ga : Nat → Nat} {O : Nat → Prop} {w : World} {fr : Nat → AV} {a : Act} (hs : Slots be ga O w fr a) {x : Operand} {o : Opd} (h : chkX x o = true) :
    RA be ga O w (opd fr o) (a.eval x) := by
  unfold chkX at h
  split at h
  · obtain rfl := beqN h; exact hs _
  · exact chkC_RA h ..
  · obtain rfl := beqN h; exact rfl
  · exact absurd h (by decide)

def chkO : Option Operand → Option Opd → Bool
  | none, none => true
  | some x, some o => chkX x o
  | _, _ => false

/-! ### Types -/

def slE (P : Program) (t : TypeId) : Option TypeId :=
  match P.underlying t with
  | some (.slice e) => some e
  | _ => none
theorem slE_eq {P : Program} {t e : TypeId} (h : slE P t = some e) : P.underlying t = some (.slice e) := by
  unfold slE at h; split at h
  · rename_i h'; simp only [Option.some.injEq] at h; rw [h', h]
  · exact absurd h (by simp)
def szT (P : Program) (t : TypeId) (n : Nat) : Bool :=
  match P.info? t with
  | some i => Nat.beq i.size n
  | none => false
theorem szT_eq {P : Program} {t : TypeId} {n : Nat} (h : szT P t n = true) : ∃ i, P.info? t = some i ∧ i.size = n := by
  unfold szT at h; split at h
  · rename_i i hi; exact ⟨i, hi, by simpa using h⟩
  · exact absurd h (by decide)
def slT' (P : Program) (t : TypeId) (n : Nat) : Bool :=
  match slE P t with
  | some e => szT P e n
  | none => false
theorem slT'_eq {P : Program} {t : TypeId} {n : Nat} (h : slT' P t n = true) : ∃ e i, P.underlying t = some (.slice e) ∧ P.info? e = some i ∧ i.size = n := by
  unfold slT' at h; split at h
  · rename_i e he; obtain ⟨i, h1, h2⟩ := szT_eq h; exact ⟨e, i, slE_eq he, h1, h2⟩
  · exact absurd h (by decide)
theorem run_sizeOf {P : Program} {t : TypeId} {i : TypeInfo} (h : P.info? t = some i) (w : World) : (Go.sizeOf t).run P w = .ok i.size w := by
  simp [Go.sizeOf, typeInfo, h]

def isAggT (P : Program) (t : TypeId) : Bool :=
  match P.underlying t with
  | some (.struct _) => true
  | some (.array _ _) => true
  | _ => false
def isOneT (P : Program) (t : TypeId) : Bool :=
  match P.underlying t with
  | some (.struct _) => false
  | some (.array _ _) => false
  | some _ => true
  | none => false
theorem run_isAgg_true {P : Program} {t : TypeId} (h : isAggT P t = true) (w : World) : (isAgg t).run P w = .ok true w := by
  unfold isAggT at h
  split at h
  · rename_i h'; simp [isAgg, run_underlying h']
  · rename_i h'; simp [isAgg, run_underlying h']
  · exact absurd h (by decide)
theorem run_isAgg_false {P : Program} {t : TypeId} (h : isOneT P t = true) (w : World) : (isAgg t).run P w = .ok false w := by
  unfold isOneT at h
  split at h
  · exact absurd h (by decide)
  · exact absurd h (by decide)
  · rename_i d h1 h2 h'
    simp only [isAgg, Sem.run_bind, run_underlying h', Result.andThen_ok]
    cases d <;> first | rfl | exact absurd h' (by simp_all)
  · exact absurd h (by decide)

end Lk
