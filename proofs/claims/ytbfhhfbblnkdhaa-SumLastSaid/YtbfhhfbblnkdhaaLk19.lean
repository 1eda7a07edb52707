/-
  The abstract machine, part 19: a statement whose order is open: the text's order stands for all.
-/
import Derived.Test.YtbfhhfbblnkdhaaLk18
namespace Lk
open Go Go.RowKit

def RunL (P : Program) : List AOper → St → List Dl → Prop
  | [], _, D => D = []
  | o :: r, st, D => ∃ δ D', D = δ :: D' ∧ EffR P o st δ ∧ RunL P r (st.chg o.d δ) D'

/-- The chosen changes, in the text's order. -/
def fl (sel : Nat → Bool) : Nat → List AOper → List Dl → St → St
  | i, o :: r, δ :: D, st => fl sel (i + 1) r D (bif sel i then st.chg o.d δ else st)
  | _, [], _, st => st
  | _, _ :: _, [], st => st

def recsOf : List AOper → List Dl → St → List (List Nat × List Nat)
  | o :: r, δ :: D, st => (o.looks st.fr, sitesOf δ.hs ++ δ.gs) :: recsOf r D (st.chg o.d δ)
  | [], _, _ => []
  | _ :: _, [], _ => []

section
variable {P : Program}

theorem stepWL_split : ∀ (aops : List AOper) (st : St) (rs : List (List Nat × List Nat)) (K : St → List (List Nat × List Nat) → Prop), stepWL P aops st rs K →
    ∃ D, RunL P aops st D ∧ K (fl (fun _ => true) 0 aops D st) (rs ++ recsOf aops D st)
  | [], st, rs, K, h => ⟨[], rfl, by have h' : K st rs := h; simpa [fl, recsOf] using h'⟩
  | o :: r, st, rs, K, h => by
    obtain ⟨δ, h1, h⟩ := stepW_split h
    obtain ⟨D, h2, h⟩ := stepWL_split r _ _ K h
    refine ⟨δ :: D, ⟨δ, D, rfl, h1, h2⟩, ?_⟩
    simp only [fl, recsOf, cond_true]
    rw [List.append_assoc] at h
    have e : ∀ (aops : List AOper) (D : List Dl) (st : St) (i j : Nat), fl (fun _ => true) i aops D st = fl (fun _ => true) j aops D st := by
      intro aops
      induction aops with
      | nil => intro D st i j; rfl
      | cons o r ih =>
        intro D st i j
        cases D with
        | nil => rfl
        | cons δ D => exact ih D _ (i + 1) (j + 1)
    rw [e r D _ (0 + 1) 0]
    exact h

theorem fl_none {sel : Nat → Bool} : ∀ (aops : List AOper) (i : Nat) (D : List Dl) (st : St), (∀ k, i ≤ k → sel k = false) → fl sel i aops D st = st
  | [], i, D, st, _ => rfl
  | o :: r, i, [], st, _ => rfl
  | o :: r, i, δ :: D, st, h => by
    simp only [fl, h i (Nat.le_refl _), cond_false]
    exact fl_none r (i + 1) D st fun k hk => h k (by omega)

/-- What an operation changed, it changed behind those ahead of it. -/
theorem run_at : ∀ (aops : List AOper) (i : Nat) (st : St) (D : List Dl), RunL P aops st D → ∀ (j : Nat) (o : AOper) (δ : Dl), aops[j]? = some o → D[j]? = some δ → EffR P o (fl (fun k => decide (k < i + j)) i aops D st) δ
  | [], i, st, D, _, j, o, δ, h, _ => absurd h (by simp)
  | o' :: r, i, st, D, h, j, o, δ, ho, hδ => by
    obtain ⟨δ', D', rfl, h1, h2⟩ := h
    cases j with
    | zero =>
      simp only [List.getElem?_cons_zero, Option.some.injEq] at ho hδ
      subst ho hδ
      rw [fl_none _ _ _ _ (fun k hk => by simp; omega)]
      exact h1
    | succ j =>
      simp only [List.getElem?_cons_succ] at ho hδ
      simp only [fl]
      have hs : decide (i < i + (j + 1)) = true := by simp
      rw [hs]
      have := run_at r (i + 1) _ D' h2 j o δ ho hδ
      rw [show i + 1 + j = i + (j + 1) by omega] at this
      exact this

theorem fl_le : ∀ (aops : List AOper) (i : Nat) (st : St) (D : List Dl) (j : Nat) (o : AOper) (δ : Dl), aops[j]? = some o → D[j]? = some δ →
    fl (fun k => decide (k < i + j + 1)) i aops D st = (fl (fun k => decide (k < i + j)) i aops D st).chg o.d δ
  | [], i, st, D, j, o, δ, h, _ => absurd h (by simp)
  | o' :: r, i, st, [], j, o, δ, _, h => absurd h (by simp)
  | o' :: r, i, st, δ' :: D', j, o, δ, ho, hδ => by
    cases j with
    | zero =>
      simp only [List.getElem?_cons_zero, Option.some.injEq] at ho hδ
      subst ho hδ
      simp only [fl]
      have e1 : decide (i < i + 0 + 1) = true := by simp
      have e2 : decide (i < i + 0) = false := by simp
      rw [e1, e2]
      simp only [cond_true, cond_false]
      rw [fl_none _ _ _ _ (fun k hk => by simp; omega), fl_none _ _ _ _ (fun k hk => by simp; omega)]
    | succ j =>
      simp only [List.getElem?_cons_succ] at ho hδ
      simp only [fl]
      have e1 : decide (i < i + (j + 1) + 1) = true := by simp; omega
      have e2 : decide (i < i + (j + 1)) = true := by simp
      rw [e1, e2]
      have := fl_le r (i + 1) (bif true then st.chg o'.d δ' else st) D' j o δ ho hδ
      rw [show i + 1 + j = i + (j + 1) by omega] at this
      exact this

theorem rec_at : ∀ (aops : List AOper) (i : Nat) (st : St) (D : List Dl) (j : Nat) (o : AOper) (δ : Dl), aops[j]? = some o → D[j]? = some δ →
    (recsOf aops D st)[j]? = some (o.looks (fl (fun k => decide (k < i + j)) i aops D st).fr, sitesOf δ.hs ++ δ.gs)
  | [], i, st, D, j, o, δ, h, _ => absurd h (by simp)
  | o' :: r, i, st, [], j, o, δ, _, h => absurd h (by simp)
  | o' :: r, i, st, δ' :: D', j, o, δ, ho, hδ => by
    cases j with
    | zero =>
      simp only [List.getElem?_cons_zero, Option.some.injEq] at ho hδ
      subst ho hδ
      rw [fl_none _ _ _ _ (fun k hk => by simp; omega)]
      simp [recsOf]
    | succ j =>
      simp only [List.getElem?_cons_succ] at ho hδ
      simp only [fl, recsOf, List.getElem?_cons_succ]
      have e2 : decide (i < i + (j + 1)) = true := by simp
      rw [e2]
      have := rec_at r (i + 1) (st.chg o'.d δ') D' j o δ ho hδ
      rw [show i + 1 + j = i + (j + 1) by omega] at this
      exact this

/-! at one place -/

theorem chg_fr {st : St} {d : Option Nat} {δ : Dl} {x : Nat} : (st.chg d δ).fr x = if d = some x then δ.v else st.fr x := by
  unfold St.chg putF
  cases d with
  | none => simp
  | some k =>
    by_cases h : x = k
    · subst h; simp [setF_same]
    · simp only [setF_ne _ _ h]
      rw [if_neg (fun e => h (Option.some.inj e).symm)]

theorem fl_fr {sel sel' : Nat → Bool} {x : Nat} : ∀ (aops : List AOper) (i : Nat) (D : List Dl) (st st' : St), (∀ j o, aops[j]? = some o → o.d = some x → sel (i + j) = sel' (i + j)) → st.fr x = st'.fr x →
    (fl sel i aops D st).fr x = (fl sel' i aops D st').fr x
  | [], i, D, st, st', _, h => h
  | o :: r, i, [], st, st', _, h => h
  | o :: r, i, δ :: D, st, st', hs, h => by
    simp only [fl]
    refine fl_fr r (i + 1) D _ _ (fun j o' ho' hd => ?_) ?_
    · have := hs (j + 1) o' (by simpa using ho') hd
      rwa [show i + (j + 1) = i + 1 + j by omega] at this
    · by_cases hd : o.d = some x
      · have := hs 0 o rfl hd
        rw [Nat.add_zero] at this
        rw [this]
        cases sel' i
        · exact h
        · simp only [cond_true, chg_fr, hd, if_true]
      · have e : ∀ (b : Bool) (st : St), (bif b then st.chg o.d δ else st).fr x = st.fr x := fun b st => by
          cases b
          · rfl
          · simp only [cond_true, chg_fr, hd, if_false]
        rw [e, e]; exact h

theorem chg_at_congr {st st' : St} {d : Option Nat} {δ : Dl} {s : Nat} (h : st.hp s = st'.hp s ∧ st.gc s = st'.gc s) : (st.chg d δ).hp s = (st'.chg d δ).hp s ∧ (st.chg d δ).gc s = (st'.chg d δ).gc s :=
  ⟨putH_congr _ _ _ s h.1, putG_congr _ _ _ s h.2⟩
theorem chg_at_not {st : St} {d : Option Nat} {δ : Dl} {s : Nat} (h : s ∉ sitesOf δ.hs ++ δ.gs) : (st.chg d δ).hp s = st.hp s ∧ (st.chg d δ).gc s = st.gc s := by
  simp only [List.mem_append, not_or] at h
  exact ⟨putH_not h.1, putG_not h.2⟩

theorem fl_at {sel sel' : Nat → Bool} {s : Nat} : ∀ (aops : List AOper) (i : Nat) (D : List Dl) (st st' : St), (∀ j δ, D[j]? = some δ → s ∈ sitesOf δ.hs ++ δ.gs → sel (i + j) = sel' (i + j)) → (st.hp s = st'.hp s ∧ st.gc s = st'.gc s) →
    (fl sel i aops D st).hp s = (fl sel' i aops D st').hp s ∧ (fl sel i aops D st).gc s = (fl sel' i aops D st').gc s
  | [], i, D, st, st', _, h => h
  | o :: r, i, [], st, st', _, h => h
  | o :: r, i, δ :: D, st, st', hs, h => by
    simp only [fl]
    refine fl_at r (i + 1) D _ _ (fun j δ' hδ' hm => ?_) ?_
    · have := hs (j + 1) δ' (by simpa using hδ') hm
      rwa [show i + (j + 1) = i + 1 + j by omega] at this
    · by_cases hd : s ∈ sitesOf δ.hs ++ δ.gs
      · have := hs 0 δ rfl hd
        rw [Nat.add_zero] at this
        rw [this]
        cases sel' i
        · exact h
        · exact chg_at_congr h
      · have e : ∀ (b : Bool) (st : St), (bif b then st.chg o.d δ else st).hp s = st.hp s ∧ (bif b then st.chg o.d δ else st).gc s = st.gc s := fun b st => by
          cases b
          · exact ⟨rfl, rfl⟩
          · exact chg_at_not hd
        rw [(e _ _).1, (e _ _).2, (e _ _).1, (e _ _).2]; exact h

/-! what is checked -/

def bitsOf (acc : List Nat) (es : List Edge) : Nat := es.foldl (fun s e => if Region.binds .any e then s ||| 2 ^ e.on ||| acc.getD e.on 0 else s) 0
def ancs : List Oper → List Nat → List Nat
  | [], acc => acc
  | o :: r, acc => ancs r (acc ++ [bitsOf acc o.after.toList])

def disj : List Nat → List Nat → Bool
  | [], _ => true
  | x :: r, l => !(l.any (Nat.beq x)) && disj r l
def dstL (o : AOper) : List Nat :=
  match o.d with
  | some d => [d]
  | none => []
def indS (x y : AOper) : Bool := disj (dstL x) (y.slots ++ dstL y) && disj (dstL y) x.slots

def memU (i j : Nat) (U : List (Nat × Nat)) : Bool := U.any fun p => Nat.beq p.1 i && Nat.beq p.2 j

/-- Operation j (its ancestors b) and those ahead of it. -/
def chkAhead (U : List (Nat × Nat)) (y : AOper) (b j : Nat) : List AOper → Nat → Bool
  | [], _ => true
  | x :: r, i => (b.testBit i || (indS x y && (isVal x.op && isVal y.op || memU i j U))) && chkAhead U y b j r (i + 1)

def chkAll (U : List (Nat × Nat)) (all : List AOper) (bs : List Nat) : List AOper → Nat → Bool
  | [], _ => true
  | y :: r, j => chkAhead U y (bs.getD j 0) j (all.take j) 0 && chkAll U all bs r (j + 1)

def chkBack : List Oper → Nat → Bool
  | [], _ => true
  | o :: r, j => o.after.toList.all (fun e => !(Region.binds .any e) || Nat.ble (e.on + 1) j) && chkBack r (j + 1)

def chkOps (P : Program) (N : Nat) (ops : Array Oper) : List Oper → List AOper → Bool
  | [], [] => true
  | o :: r, ao :: s => chkOp P N ops o ao && chkOps P N ops r s
  | _, _ => false

theorem chkOps_get {N : Nat} {ops : Array Oper} : ∀ {l : List Oper} {m : List AOper}, chkOps P N ops l m = true → l.length = m.length ∧ ∀ (i : Nat) (o : Oper) (ao : AOper), l[i]? = some o → m[i]? = some ao → chkOp P N ops o ao = true
  | [], [], _ => ⟨rfl, fun i o ao h => absurd h (by simp)⟩
  | o :: r, ao :: s, h => by
    simp only [chkOps, Bool.and_eq_true] at h
    obtain ⟨h1, h2⟩ := chkOps_get h.2
    refine ⟨by simp [h1], fun i o' ao' ho hao => ?_⟩
    cases i with
    | zero =>
      simp only [List.getElem?_cons_zero, Option.some.injEq] at ho hao
      subst ho hao
      exact h.1
    | succ i =>
      simp only [List.getElem?_cons_succ] at ho hao
      exact h2 i o' ao' ho hao
  | [], _ :: _, h => absurd h (by simp [chkOps])
  | _ :: _, [], h => absurd h (by simp [chkOps])

theorem chkAll_get {U : List (Nat × Nat)} {all : List AOper} {bs : List Nat} : ∀ (l : List AOper) (j0 : Nat), chkAll U all bs l j0 = true → ∀ (j : Nat) (y : AOper), l[j]? = some y → chkAhead U y (bs.getD (j0 + j) 0) (j0 + j) (all.take (j0 + j)) 0 = true
  | [], j0, _, j, y, h => absurd h (by simp)
  | x :: r, j0, h, j, y, hy => by
    simp only [chkAll, Bool.and_eq_true] at h
    cases j with
    | zero =>
      simp only [List.getElem?_cons_zero, Option.some.injEq] at hy
      subst hy
      exact h.1
    | succ j =>
      simp only [List.getElem?_cons_succ] at hy
      have := chkAll_get r (j0 + 1) h.2 j y hy
      rwa [show j0 + 1 + j = j0 + (j + 1) by omega] at this

theorem chkAhead_get {U : List (Nat × Nat)} {y : AOper} {b j : Nat} : ∀ (l : List AOper) (i0 : Nat), chkAhead U y b j l i0 = true → ∀ (i : Nat) (x : AOper), l[i]? = some x →
    b.testBit (i0 + i) = true ∨ (indS x y = true ∧ (isVal x.op = true ∧ isVal y.op = true ∨ memU (i0 + i) j U = true))
  | [], i0, _, i, x, h => absurd h (by simp)
  | x' :: r, i0, h, i, x, hx => by
    simp only [chkAhead, Bool.and_eq_true, Bool.or_eq_true] at h
    cases i with
    | zero =>
      simp only [List.getElem?_cons_zero, Option.some.injEq] at hx
      subst hx
      exact h.1
    | succ i =>
      simp only [List.getElem?_cons_succ] at hx
      have := chkAhead_get r (i0 + 1) h.2 i x hx
      rwa [show i0 + 1 + i = i0 + (i + 1) by omega] at this

theorem chkBack_get : ∀ (l : List Oper) (j0 : Nat), chkBack l j0 = true → ∀ (j : Nat) (o : Oper), l[j]? = some o → ∀ e ∈ o.after, Region.binds .any e = true → e.on < j0 + j
  | [], j0, _, j, o, h => absurd h (by simp)
  | x :: r, j0, h, j, o, ho => by
    simp only [chkBack, Bool.and_eq_true] at h
    cases j with
    | zero =>
      simp only [List.getElem?_cons_zero, Option.some.injEq] at ho
      subst ho
      intro e he hb
      have := List.all_eq_true.1 h.1 e (by simpa using he)
      simp only [hb, Bool.not_true, Bool.false_or] at this
      have := Nat.le_of_ble_eq_true this
      omega
    | succ j =>
      simp only [List.getElem?_cons_succ] at ho
      intro e he hb
      have := chkBack_get r (j0 + 1) h.2 j o ho e he hb
      omega

theorem disj_get : ∀ {l m : List Nat}, disj l m = true → ∀ x ∈ l, x ∉ m
  | [], m, _, x, h => absurd h (by simp)
  | y :: r, m, h, x, hx => by
    simp only [disj, Bool.and_eq_true, Bool.not_eq_true'] at h
    rcases List.mem_cons.1 hx with rfl | hx
    · intro hm
      have : m.any (Nat.beq x) = true := List.any_eq_true.2 ⟨x, hm, by simp⟩
      rw [this] at h
      exact absurd h.1 (by simp)
    · exact disj_get h.2 x hx
theorem apart_get : ∀ {l m : List Nat}, apart l m = true → ∀ x ∈ l, x ∉ m
  | [], m, _, x, h => absurd h (by simp)
  | y :: r, m, h, x, hx => by
    simp only [apart, Bool.and_eq_true, Bool.not_eq_true'] at h
    rcases List.mem_cons.1 hx with rfl | hx
    · intro hm
      have : m.any (Nat.beq x) = true := List.any_eq_true.2 ⟨x, hm, by simp⟩
      rw [this] at h
      exact absurd h.1 (by simp)
    · exact apart_get h.2 x hx

theorem okU_get {rs : List (List Nat × List Nat)} : ∀ {U : List (Nat × Nat)}, okU rs U = true → ∀ i j, memU i j U = true → ∃ x y, rs[i]? = some x ∧ rs[j]? = some y ∧ apart x.2 y.1 = true ∧ apart y.2 x.1 = true ∧ apart x.2 y.2 = true
  | [], _, i, j, h => absurd h (by simp [memU])
  | (i', j') :: r, h, i, j, hm => by
    simp only [okU, Bool.and_eq_true] at h
    simp only [memU, List.any_cons, Bool.or_eq_true, Bool.and_eq_true] at hm
    rcases hm with ⟨h1, h2⟩ | hm
    · obtain rfl := beqN h1
      obtain rfl := beqN h2
      obtain ⟨h, _⟩ := h
      split at h
      case h_2 => exact absurd h (by decide)
      rename_i x hx
      split at h
      case h_2 => exact absurd h (by decide)
      rename_i y hy
      simp only [Bool.and_eq_true] at h
      exact ⟨x, y, hx, hy, h.1.1, h.1.2, h.2⟩
    · exact okU_get h.2 i j hm

/-- The ancestors of what has its edges' ends in a closed set are in it. -/
theorem bits_closed {E : Nat → Prop} {acc : List Nat} {i : Nat} (hacc : ∀ k, k < acc.length → ∀ i, (acc.getD k 0).testBit i = true → E k → E i) :
    ∀ (es : List Edge) (s : Nat), (s.testBit i = true → E i) → (∀ e ∈ es, Region.binds .any e = true → E e.on) →
      (es.foldl (fun s e => if Region.binds .any e then s ||| 2 ^ e.on ||| acc.getD e.on 0 else s) s).testBit i = true → E i
  | [], s, hs, _, h => hs h
  | e :: es, s, hs, he, h => by
    simp only [List.foldl_cons] at h
    refine bits_closed hacc es _ (fun hb => ?_) (fun e' he' => he e' (by simp [he'])) h
    split at hb
    · rename_i hbind
      have heE := he e (by simp) hbind
      simp only [Nat.testBit_or, Bool.or_eq_true, Nat.testBit_two_pow] at hb
      rcases hb with (hb | hb) | hb
      · exact hs hb
      · have : e.on = i := by simpa using hb
        rw [← this]; exact heE
      · by_cases hlt : e.on < acc.length
        · exact hacc e.on hlt i hb heE
        · rw [List.getD_eq_getElem?_getD, List.getElem?_eq_none (by omega)] at hb
          simp at hb
    · exact hs hb

theorem ancs_spec {E : Nat → Prop} : ∀ (l : List Oper) (acc : List Nat), (∀ (k : Nat) (o : Oper), l[k]? = some o → E (acc.length + k) → ∀ e ∈ o.after, Region.binds .any e = true → E e.on) →
    (∀ k, k < acc.length → ∀ i, (acc.getD k 0).testBit i = true → E k → E i) → (ancs l acc).length = acc.length + l.length ∧
    (∀ k, k < (ancs l acc).length → ∀ i, ((ancs l acc).getD k 0).testBit i = true → E k → E i) ∧
    ∀ (k : Nat) (o : Oper), l[k]? = some o → ∀ i, ((ancs l acc).getD (acc.length + k) 0).testBit i = true → (∀ e ∈ o.after, Region.binds .any e = true → E e.on) → E i
  | [], acc, _, h => ⟨rfl, h, fun k o ho => absurd ho (by simp)⟩
  | o :: r, acc, hcl, hacc => by
    have hnew : ∀ i, (bitsOf acc o.after.toList).testBit i = true → (∀ e ∈ o.after, Region.binds .any e = true → E e.on) → E i := fun i hb he =>
      bits_closed hacc o.after.toList 0 (fun h => absurd h (by simp)) (fun e hm => he e (by simpa using hm)) hb
    have hacc' : ∀ k, k < (acc ++ [bitsOf acc o.after.toList]).length → ∀ i, ((acc ++ [bitsOf acc o.after.toList]).getD k 0).testBit i = true → E k → E i := fun k hk i hb hE => by
      simp only [List.length_append, List.length_cons, List.length_nil] at hk
      by_cases hlt : k < acc.length
      · rw [List.getD_eq_getElem?_getD, List.getElem?_append_left hlt, ← List.getD_eq_getElem?_getD] at hb
        exact hacc k hlt i hb hE
      · have hke : k = acc.length := by omega
        rw [hke, List.getD_eq_getElem?_getD, List.getElem?_append_right (Nat.le_refl _)] at hb
        simp at hb
        exact hnew i hb (hcl 0 o rfl (by rw [Nat.add_zero, ← hke]; exact hE))
    obtain ⟨h1, h2, h3⟩ := ancs_spec r (acc ++ [bitsOf acc o.after.toList]) (fun k o' ho' hE => hcl (k + 1) o' (by simpa using ho') (by rw [show acc.length + (k + 1) = (acc ++ [bitsOf acc o.after.toList]).length + k by simp; omega]; exact hE)) hacc'
    have hpre : ∀ (l : List Oper) (acc : List Nat) (k : Nat), k < acc.length → (ancs l acc)[k]? = acc[k]? := by
      intro l
      induction l with
      | nil => intro acc k _; rfl
      | cons o l ih =>
        intro acc k hk
        rw [ancs, ih _ _ (by simp; omega), List.getElem?_append_left hk]
    refine ⟨by rw [ancs, h1]; simp; omega, h2, fun k o' ho' i hb he => ?_⟩
    cases k with
    | zero =>
      simp only [List.getElem?_cons_zero, Option.some.injEq] at ho'
      subst ho'
      rw [ancs, Nat.add_zero, List.getD_eq_getElem?_getD, hpre _ _ _ (by simp), List.getElem?_append_right (Nat.le_refl _)] at hb
      simp at hb
      exact hnew i hb he
    | succ k =>
      simp only [List.getElem?_cons_succ] at ho'
      refine h3 k o' ho' i ?_ he
      rw [ancs] at hb
      rw [show (acc ++ [bitsOf acc o.after.toList]).length + k = acc.length + (k + 1) by simp; omega]
      exact hb

end
end Lk
