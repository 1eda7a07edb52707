/-
  The abstract machine, part 23: a function's contract, from its code.
-/
import Derived.Test.YtbfhhfbblnkdhaaLk22
namespace Lk
open Go Go.RowKit

section
variable {P : Program} {O : Nat → Prop} {w : World}

def chkRes : List ResultVar → List Nat → Bool
  | [], [] => true
  | .tmp t :: r, k :: s => Nat.beq t k && chkRes r s
  | _, _ => false

def resF (tmps : Array Value) : ResultVar → Sem Value
  | .tmp t => pure (tmps.getD t Go.undef)
  | .cell a t => do loadVar t (← asAddr (tmps.getD a Go.undef))

theorem mapM_res (tmps : Array Value) (w : World) : ∀ (rv : List ResultVar) (rs : List Nat), chkRes rv rs = true →
    (rv.mapM (resF tmps)).run P w = .ok (rs.map fun k => tmps.getD k Go.undef) w
  | [], [], _ => by simp
  | [], _ :: _, h => absurd h (by simp [chkRes])
  | .tmp t :: r, [], h => absurd h (by simp [chkRes])
  | .cell _ _ :: r, _, h => absurd h (by simp [chkRes])
  | .tmp t :: r, k :: s, h => by
    simp only [chkRes, Bool.and_eq_true] at h
    obtain rfl := beqN h.1
    have ih := mapM_res tmps w r s h.2
    rw [List.mapM_cons, Sem.run_bind, show (resF tmps (.tmp t)).run P w = .ok (tmps.getD t Go.undef) w from rfl, Result.andThen_ok, Sem.run_bind, ih]
    rfl

theorem run_results {fn : Func} {rs : List Nat} (h : chkRes fn.results.toList rs = true) (tmps : Array Value) (w : World) {res : List RV} (hl : rs.length = res.length) :
    ∃ v, (results fn tmps).run P w = .ok v w ∧ resVal res (rs.map fun k => tmps.getD k Go.undef).toArray v := by
  have h1 := mapM_res (P := P) tmps w _ _ h
  have h2 : (fn.results.mapM (resF tmps)).run P w = .ok (rs.map fun k => tmps.getD k Go.undef).toArray w := by
    rw [Array.mapM_eq_mapM_toList, Sem.run_map, h1]
    rfl
  have h3 : results fn tmps = (fn.results.mapM (resF tmps)) >>= fun vs => pure (if h : vs.size = 1 then vs[0] else .tuple vs) := by
    unfold results
    congr 2
  rw [h3, Sem.run_bind, h2, Result.andThen_ok]
  refine ⟨_, rfl, ?_⟩
  match res, hl with
  | [], hl =>
    obtain rfl : rs = [] := by cases rs with | nil => rfl | cons => simp at hl
    exact ⟨rfl, rfl⟩
  | [r], hl =>
    match rs, hl with
    | [k], _ => exact ⟨rfl, rfl⟩
  | r :: r' :: l, hl =>
    refine ⟨by simpa using hl, ?_⟩
    rw [dif_neg]
    have : rs.length = l.length + 2 := by simpa using hl
    simp [this]

def chkFn (P : Program) (f : Nat) (n : Nat) (ac : ACode) (rs : List Nat) : Bool :=
  match P.funcs[f]? with
  | some fn => match fn.body with
    | some c => chkCode P fn.ntmps c ac && chkRes fn.results.toList rs && !(fn.name == "runtime.NumGoroutine") && Nat.ble n fn.ntmps
    | none => false
  | none => false

theorem argF_sound (w : World) (O : Nat → Prop) : ∀ (args : List PV) (vs : List Value) (k0 : Nat) (ts : Nat → Value), vs.length = args.length →
    (∀ (i : Nat) (p : PV), args[i]? = some p → ∃ u, vs[i]? = some u ∧ RP O w p u) → (∀ i u, vs[i]? = some u → ts (k0 + i) = u) →
    ∀ k be ga, RA be ga O w (argF args k0 k) (ts k)
  | [], _, k0, ts, _, _, _, k, be, ga => trivial
  | p :: r, [], k0, ts, hl, _, _, k, be, ga => by simp at hl
  | p :: r, v :: vs, k0, ts, hl, h, ht, k, be, ga => by
    have ih := argF_sound w O r vs (k0 + 1) ts (by simpa using hl) (fun i p hp => by simpa using h (i + 1) p (by simpa using hp)) (fun i u hu => by
      have := ht (i + 1) u (by simpa using hu)
      rwa [show k0 + 1 + i = k0 + (i + 1) by omega]) k be ga
    obtain ⟨u, hu, hp⟩ := h 0 p rfl
    simp only [List.getElem?_cons_zero, Option.some.injEq] at hu
    subst hu
    have h0 : ts k0 = v := by simpa using ht 0 v rfl
    cases p with
    | one x =>
      by_cases hk : k = k0
      · subst hk
        rw [argF, setF_same, h0]
        exact hp
      · rw [argF, setF_ne _ _ hk]; exact ih
    | many n f =>
      by_cases hk : k = k0
      · subst hk
        rw [argF, setF_same, h0]
        exact hp
      · rw [argF, setF_ne _ _ hk]; exact ih

/-- A function's contract, from its code in the machine. -/
theorem fnOk {f : Nat} {ac : ACode} {rs : List Nat} {args : List PV} {res : List RV} (hm : P.follows .mixedOrders = true) (hc : chkFn P f args.length ac rs = true)
    (h : awp P ac (fin rs res) (St.init args)) : FnOk P f args res := by
  unfold chkFn at hc
  split at hc
  case h_2 => exact absurd hc (by simp)
  rename_i fn hf
  split at hc
  case h_2 => exact absurd hc (by simp)
  rename_i c hb
  simp only [Bool.and_eq_true, Bool.not_eq_true'] at hc
  obtain ⟨⟨⟨hc1, hc2⟩, hc3⟩, hc4⟩ := hc
  have hc4 := Nat.le_of_ble_eq_true hc4
  refine ⟨by simp [isGo, hf, hb, hc3], fun O vs w hO hvs hargs => ?_⟩
  refine calls_of_wp hf hb ?_
  have hrel : Rel O w fn.ntmps (St.init args) { tmps := vs ++ Array.replicate (fn.ntmps - vs.size) Go.undef, defers := [] } w (fun _ _ => none) := by
    refine ⟨?_, rfl, Below.refl _ _, hO, fun s q b hb => (by cases hb), fun k => ?_, fun s e he => (by cases he), fun s s' e e' b he => (by cases he)⟩
    · simp; omega
    · have hown : own O (fun _ _ => none) (St.init args) = O := by
        funext b
        apply propext
        exact ⟨fun h => h.elim id fun ⟨s, e, he, _⟩ => (by cases he), .inl⟩
      rw [hown]
      refine argF_sound w O args vs.toList 0 (fun k => (vs ++ Array.replicate (fn.ntmps - vs.size) Go.undef).getD k Go.undef) (by simpa using hvs) (fun i p hp => by simpa using hargs i p hp) (fun i u hu => ?_) k _ _
      rw [Nat.zero_add]
      have hu' : vs[i]? = some u := by simpa using hu
      have hlt : i < vs.size := by
        rcases Nat.lt_or_ge i vs.size with h | h
        · exact h
        · rw [Array.getElem?_eq_none h] at hu'; cases hu'
      show (vs ++ Array.replicate (fn.ntmps - vs.size) Go.undef).getD i Go.undef = u
      rw [Array.getD_eq_getD_getElem?, Array.getElem?_append_left hlt, hu']
      rfl
  have fini : ∀ (st : St) (a : Act) (w' : World) (be : Nm), retP rs res st → Rel O w fn.ntmps st a w' be → a.defers = [] ∧ ∃ v, (results fn a.tmps).run P w' = .ok v w' ∧ (∃ v', Ending.returned v = .returned v' ∧ Below w.heap.size w w' ∧ RRes O w.heap.size w' res v') := by
    intro st a w' be h hr
    obtain ⟨hl, hres⟩ := retP_sound h hr
    obtain ⟨v, hv, hrv⟩ := run_results (P := P) hc2 a.tmps w' hl
    exact ⟨hr.defers, v, hv, v, rfl, hr.below, hres v hrv⟩
  refine wp_mono (awp_sound hm ac c _ _ _ _ _ hc1 h hrel) fun e a w' hq => ?_
  cases e with
  | normal =>
    obtain ⟨st, be, hQ, hr⟩ := hq
    exact fini st a w' be hQ hr
  | ret =>
    obtain ⟨st, be, hQ, hr⟩ := hq
    exact fini st a w' be hQ hr
  | exit id =>
    obtain ⟨st, be, hQ, hr⟩ := hq
    exact hQ.elim
  | goto l => exact hq.elim
  | panic ch => exact hq.elim
  | outgrown => exact hq.elim

end
end Lk
