/-
  The abstract machine, part 16: an operation of a region, checked, is sound.
-/
import Derived.Test.YtbfhhfbblnkdhaaLk15
namespace Lk
open Go Go.RowKit

def cCall (op : Op) (f : Nat) (args : List Opd) : Bool :=
  match op with
  | .call c => (match c.callee with
    | .value (.func g) => Nat.beq g f
    | _ => false) && chkXs c.args.toList args
  | _ => false

def cCallv (op : Op) (x : Opd) (args : List Opd) : Bool :=
  match op with
  | .call c => (match c.callee with
    | .value y => chkX y x
    | _ => false) && chkXs c.args.toList args
  | _ => false

def chkDst (N : Nat) (d : Option Nat) (st : Bool) : Bool :=
  match d with
  | some k => !st && Nat.ble (k + 1) N
  | none => st

def chkGd (ops : Array Oper) (g g' : Option (Nat × Bool)) : Bool :=
  match g with
  | none => (match g' with
    | none => true
    | some _ => false)
  | some (j, want) => (match g' with
    | none => false
    | some (k, want') => (match (ops[j]?).bind (·.dst) with
      | some k' => Nat.beq k' k
      | none => false) && (want == want'))

def chkCE (P : Program) (o : Op) (op : AOp) : Bool :=
  match op with
  | .call f args => cCall o f args
  | .callv x args => cCallv o x args
  | op => chkE P o op

def eqO (d d' : Option Nat) : Bool :=
  match d with
  | none => (match d' with
    | none => true
    | some _ => false)
  | some k => (match d' with
    | none => false
    | some k' => Nat.beq k k')
theorem eqO_eq {d d' : Option Nat} (h : eqO d d' = true) : d = d' := by
  cases d with
  | none => cases d' with
    | none => rfl
    | some k => exact absurd h (by simp [eqO])
  | some k => cases d' with
    | none => exact absurd h (by simp [eqO])
    | some k' => exact congrArg some (beqN h)

def chkOp (P : Program) (N : Nat) (ops : Array Oper) (o : Oper) (ao : AOper) : Bool :=
  eqO o.dst ao.d && chkDst N ao.d (isSt ao.op) && chkGd ops o.guard ao.gd && chkCE P o.op ao.op

section
variable {P : Program} {O : Nat → Prop} {W : World} {N : Nat} {st : St} {a : Act} {w : World} {be : Nm} {o : Oper} {ao : AOper} {δ : Dl} {next : Act → World → Prop} {Q : Exit → Act → World → Prop}

theorem run_callGo {f : Nat} (h : isGo P f = true) (args : Array Value) (w : World) : (callFunc f args).run P w = .ok (.enter f args) w := by
  unfold isGo at h
  split at h
  case h_2 => exact absurd h (by decide)
  rename_i fn hfn
  simp only [Bool.and_eq_true, Bool.not_eq_true'] at h
  obtain ⟨h1, h2⟩ := h
  have h3 : fn.body.isNone = false := by cases hb : fn.body <;> simp_all
  unfold callFunc
  simp only [Sem.run_bind, run_program, Result.andThen_ok, hfn, h2, Bool.false_eq_true, if_false, h3, Sem.run_pure]

theorem call_val {vs : List Value} {xs : List Operand} (h : vs = xs.map a.eval) : (xs.toArray.map a.eval) = vs.toArray := by
  rw [h]; simp

/-- A call, carried out. -/
theorem call_sound {f : Nat} {args : List Opd} {c : Call} (ho : o.op = .call c) (hrun : ∀ w, isGo P f = true → (execOp a.eval o).run P w = .ok (.enter f (c.args.map a.eval)) w) (hx : chkXs c.args.toList args = true)
    {cnd : Prop} (hcnd : cnd) {gd : Bool} {d : Nat} (hd : d < N) (hdst : o.dst = some d) (h : Rel O W N st a w be) (he : CallR P cnd gd (some d) f args st δ)
    (hk : ∀ a' w' be', Rel O W N (st.chg (some d) δ) a' w' be' → next a' w') : o.wp P a w next Q := by
  obtain ⟨fr, hp, gc⟩ := st
  obtain ⟨pvs, hs, args', res, k, hdk, hargs, hf, heq, hg1, hg2⟩ := he
  obtain rfl := Option.some.inj hdk
  obtain ⟨ps', hs', hps, hr⟩ := argsM_run args c.args.toList hp _ hx hargs
  simp only [Prod.mk.injEq] at hps
  obtain ⟨rfl, rfl⟩ := hps
  obtain ⟨f1, r1⟩ := hr (O := O) (W := W) (N := N) (a := a) (w := w) (be := be)
  have hrel1 := f1.rel h
  have hrps := (r1 hcnd h).eq (heq hcnd)
  obtain ⟨hl, hget⟩ := hrps.get
  have hfn := hf hcnd
  unfold Oper.wp
  rw [hrun w hfn.go]
  simp only [Oper.upon]
  refine Calls.mono (hfn.calls (own O be ⟨fr, putH hs' hp, gc⟩) (c.args.map a.eval) w (fun b hb => own_lt hrel1 hb) (by have := hl; simp at this ⊢; exact this) (fun i p hp => ?_)) ?_
  · obtain ⟨u, hu, hr⟩ := hget i p hp
    refine ⟨u, ?_, hr⟩
    simpa using hu
  · rintro e w' ⟨v, rfl, hb, hres⟩
    simp only
    obtain ⟨be', hrel, hra⟩ := hrel1.results (d := d) hb hres
    have hput := hrel.put hd hra
    cases gd with
    | true =>
      obtain ⟨e1, e2, hδ⟩ := hg1 rfl
      rw [hδ] at hk
      rw [hdst]
      have e1' : rvEs d 0 res = [] := by
        have : (callD gc d [] res).hs = [] ++ rvEs d 0 res := rfl
        rw [this] at e1; simpa using e1
      rw [e1'] at hput
      simp only [putH, sitesOf, putG] at hput
      refine hk _ _ be' ?_
      have hput2 := hrel
      rw [e1'] at hput2 hra
      exact Rel.put hput2 hd (v := .may cnd (resAV gc d res)) ⟨fun _ => hra, fun hn => absurd hcnd hn⟩
    | false =>
      have hδ := hg2 rfl
      rw [hδ] at hk
      rw [hdst]
      refine hk _ _ be' ?_
      have : St.chg ⟨fr, hp, gc⟩ (some d) (callD gc d hs' res) = ⟨setF fr d (resAV gc d res), putH (rvEs d 0 res) (putH hs' hp), putG (sitesOf (rvEs d 0 res)) gc⟩ := by
        unfold St.chg callD putF
        simp only [putH_append]
      rw [this]
      exact hput

theorem cCall_run {f : Nat} {args : List Opd} (hc : cCall o.op f args = true) : ∃ c, o.op = .call c ∧ chkXs c.args.toList args = true ∧ ∀ (a : Act) w, isGo P f = true → (execOp a.eval o).run P w = .ok (.enter f (c.args.map a.eval)) w := by
  unfold cCall at hc
  split at hc
  case h_2 => exact absurd hc (by decide)
  rename_i c ho
  simp only [Bool.and_eq_true] at hc
  obtain ⟨hcal, harg⟩ := hc
  split at hcal
  case h_2 => exact absurd hcal (by decide)
  rename_i g hg
  obtain rfl := beqN hcal
  refine ⟨c, ho, harg, fun a w hgo => ?_⟩
  simp [execOp, ho, resolve, hg, Act.eval, Deferred.ofValue, invoke, run_callGo hgo]

theorem Rel.undefd {fr : Nat → AV} {hp : Nat → Option Ent} {gc : Nat → Nat} (h : Rel O W N ⟨fr, hp, gc⟩ a w be) {d : Nat} (hd : d < N) {cnd : Prop} (hn : ¬ cnd) (v : AV) : Rel O W N ⟨setF fr d (.may cnd v), hp, gc⟩ (a.put (some d) Go.undef) w be :=
  h.put hd ⟨fun hc => absurd hc hn, fun _ => rfl⟩

/-- An unguarded operation. -/
theorem opR_sound (hdst : o.dst = ao.d) (hd : chkDst N ao.d (isSt ao.op) = true) (hc : chkCE P o.op ao.op = true) (h : Rel O W N st a w be) (he : OpR P ao.op ao.d st δ)
    (hk : ∀ a' w' be', Rel O W N (st.chg ao.d δ) a' w' be' → next a' w') : o.wp P a w next Q := by
  obtain ⟨fr, hp, gc⟩ := st
  obtain ⟨d, op, gd⟩ := ao
  simp only at *
  have hdlt : ∀ k, d = some k → k < N := fun k hk' => by
    subst hk'
    simp only [chkDst, Bool.and_eq_true] at hd
    exact Nat.le_of_ble_eq_true hd.2
  have heff : ∀ (hce : chkE P o.op op = true) (_ : (eff op (d.getD 0) True ⟨fr, hp, gc⟩).run fun x => x = δ), o.wp P a w next Q := by
    intro hce he
    obtain ⟨δ', rfl, hs⟩ := eff_sound (d := d.getD 0) h hce he
    unfold Oper.wp
    rcases hs with ⟨hst, w', u, be', hrun, hrel, hra⟩ | ⟨hst, hgs, w', hrun, hrel⟩
    · rw [hrun]
      simp only [Oper.upon]
      rw [hst] at hd
      cases d with
      | none => exact absurd hd (by simp [chkDst])
      | some k =>
        rw [hdst]
        exact hk _ _ be' (hrel.put (hdlt k rfl) hra)
    · rw [hrun]
      simp only [Oper.upon]
      rw [hst] at hd
      cases d with
      | some k => exact absurd hd (by simp [chkDst])
      | none =>
        rw [hdst]
        refine hk _ _ be ?_
        have : St.chg ⟨fr, hp, gc⟩ none δ' = ⟨fr, putH δ'.hs hp, gc⟩ := by
          unfold St.chg putF; rw [hgs]; rfl
        rw [this]
        exact hrel
  cases op with
  | call f args =>
    obtain ⟨c, ho, harg, hrun⟩ := cCall_run (P := P) hc
    obtain ⟨pvs, hs, args', res, k, rfl, _⟩ := id he
    exact call_sound ho (hrun a) harg trivial (hdlt k rfl) hdst h he hk
  | callv x args =>
    unfold chkCE cCallv at hc
    simp only at hc
    split at hc
    case h_2 => exact absurd hc (by decide)
    rename_i c ho
    simp only [Bool.and_eq_true] at hc
    obtain ⟨hcal, harg⟩ := hc
    split at hcal
    case h_2 => exact absurd hcal (by decide)
    rename_i y hy
    replace he : (rd True fr x).run fun v => isFn v fun f => CallR P True false d f args ⟨fr, hp, gc⟩ δ := he
    obtain ⟨v, he, hv⟩ := rd_sound h.slot hcal he
    unfold isFn at he
    split at he
    case h_2 => exact he.elim
    rename_i f
    have e1 : a.eval y = .func (.func f) #[] #[] := hv trivial
    obtain ⟨pvs, hs, args', res, k, rfl, _⟩ := id he
    refine call_sound ho (fun w hgo => ?_) harg trivial (hdlt k rfl) hdst h he hk
    simp [execOp, ho, resolve, hy, e1, Deferred.ofValue, invoke, run_callGo hgo]
  | _ => exact heff hc he

/-- A guarded operation. -/
theorem gdR_sound {cnd : Prop} (hdst : o.dst = ao.d) (hd : chkDst N ao.d (isSt ao.op) = true) (hc : chkCE P o.op ao.op = true) (h : Rel O W N st a w be) (he : GdR P cnd ao.op ao.d st δ)
    (hk : ∀ a' w' be', Rel O W N (st.chg ao.d δ) a' w' be' → next a' w') : (cnd → o.wp P a w next Q) ∧ (¬ cnd → next (a.put o.dst Go.undef) w) := by
  obtain ⟨fr, hp, gc⟩ := st
  obtain ⟨d, op, gd⟩ := ao
  simp only at *
  have hdlt : ∀ k, d = some k → k < N := fun k hk' => by
    subst hk'
    simp only [chkDst, Bool.and_eq_true] at hd
    exact Nat.le_of_ble_eq_true hd.2
  cases op with
  | val p =>
    cases d with
    | none => exact absurd hd (by simp [chkDst, isSt])
    | some k =>
      obtain ⟨v, rfl, hv⟩ := pv_sound (P := P) (o := o) h.slot h.ent hc he
      refine ⟨fun c => ?_, fun n => ?_⟩
      · obtain ⟨u, hrun, hr⟩ := hv c
        unfold Oper.wp
        rw [hrun]
        simp only [Oper.upon]
        rw [hdst]
        exact hk _ _ be (h.put (hdlt k rfl) (v := .may cnd v) ⟨fun _ => hr, fun hn => absurd c hn⟩)
      · rw [hdst]
        exact hk _ _ be (h.undefd (hdlt k rfl) n v)
  | call f args =>
    obtain ⟨c, ho, harg, hrun⟩ := cCall_run (P := P) hc
    refine ⟨fun cc => ?_, fun n => ?_⟩
    · obtain ⟨pvs, hs, args', res, k, rfl, _⟩ := id he
      exact call_sound ho (hrun a) harg cc (hdlt k rfl) hdst h he hk
    · obtain ⟨pvs, hs, args', res, k, rfl, hargs, hf, heq, hg1, hg2⟩ := he
      obtain ⟨ps', hs', hps, hr⟩ := argsM_run args c.args.toList hp _ harg hargs
      simp only [Prod.mk.injEq] at hps
      obtain ⟨rfl, rfl⟩ := hps
      obtain ⟨f1, _⟩ := hr (O := O) (W := W) (N := N) (a := a) (w := w) (be := be)
      obtain ⟨_, _, hδ⟩ := hg1 rfl
      rw [hdst]
      rw [hδ] at hk
      exact hk _ _ be ((f1.rel h).undefd (hdlt k rfl) n _)
  | _ => exact he.elim

/-- The guard of an operation, as the model asks it. -/
theorem guard_some {ops : Array Oper} {g : Nat × Bool} (hg : o.guard = some g) (hc : chkGd ops o.guard ao.gd = true) : ∃ k want, ao.gd = some (k, want) ∧ ∀ tmps : Array Value, Region.wanted o (yielded ops tmps) = true ↔ tmps[k]? = some (.bool want) := by
  rw [hg] at hc
  obtain ⟨j, want⟩ := g
  cases hgd : ao.gd with
  | none => rw [hgd] at hc; exact absurd hc (by simp [chkGd])
  | some kw =>
    obtain ⟨k, want'⟩ := kw
    rw [hgd] at hc
    simp only [chkGd, Bool.and_eq_true, beq_iff_eq] at hc
    obtain ⟨h1, rfl⟩ := hc
    split at h1
    case h_2 => exact absurd h1 (by decide)
    rename_i k' hk'
    obtain rfl := beqN h1
    refine ⟨k', want, rfl, fun tmps => ?_⟩
    have hsome : ((ops[j]?).bind fun x => x.dst).bind (fun x => tmps[x]?) = tmps[k']? := by rw [hk']; rfl
    simp only [Region.wanted, hg, beq_iff_eq, yielded, hsome]
    cases hv : tmps[k']? with
    | none => simp
    | some v => cases v <;> simp

theorem getD_bool {tmps : Array Value} {k : Nat} {b : Bool} (h : tmps.getD k Go.undef = .bool b) : tmps[k]? = some (.bool b) := by
  rw [Array.getD_eq_getD_getElem?] at h
  cases hv : tmps[k]? with
  | none => rw [hv] at h; exact absurd h (by simp [Go.undef])
  | some v => rw [hv] at h; simp only [Option.getD_some] at h; rw [h]
theorem getD_undef {tmps : Array Value} {k : Nat} (h : tmps.getD k Go.undef = Go.undef) (b : Bool) : tmps[k]? ≠ some (.bool b) := by
  intro hv
  rw [Array.getD_eq_getD_getElem?, hv] at h
  exact absurd h (by simp [Go.undef])

/-- An operation, checked: what it changes is what the machine says. -/
theorem EffR_sound {ops : Array Oper} (hc : chkOp P N ops o ao = true) (h : Rel O W N st a w be) (he : EffR P ao st δ) (hk : ∀ a' w' be', Rel O W N (st.chg ao.d δ) a' w' be' → next a' w') :
    (Region.wanted o (yielded ops a.tmps) = true → o.wp P a w next Q) ∧ (¬ (Region.wanted o (yielded ops a.tmps) = true) → next (a.put o.dst Go.undef) w) := by
  simp only [chkOp, Bool.and_eq_true] at hc
  obtain ⟨⟨⟨h1, h2⟩, h3⟩, h4⟩ := hc
  have h1 := eqO_eq h1
  cases hg : o.guard with
  | none =>
    have hgd : ao.gd = none := by
      rw [hg] at h3
      cases hgd : ao.gd with
      | none => rfl
      | some x => rw [hgd] at h3; exact absurd h3 (by simp [chkGd])
    have hw : Region.wanted o (yielded ops a.tmps) = true := by simp [Region.wanted, hg]
    unfold EffR at he
    rw [hgd] at he
    exact ⟨fun _ => opR_sound h1 h2 h4 h he hk, fun hn => absurd hw hn⟩
  | some g =>
    obtain ⟨k, want, hgd, hw⟩ := guard_some hg h3
    unfold EffR at he
    rw [hgd] at he
    simp only at he
    rw [hw]
    have hs := h.slot k
    split at he
    · rename_i b hb
      obtain ⟨e1, e2⟩ := gdR_sound (Q := Q) h1 h2 h4 h he hk
      rw [hb] at hs
      have hs' := getD_bool (show a.tmps.getD k Go.undef = .bool b from hs)
      rw [hs']
      exact ⟨fun hh => e1 (by simpa using hh), fun hh => e2 (fun hbw => hh (by rw [hbw]))⟩
    · rename_i p b hb
      obtain ⟨e1, e2⟩ := gdR_sound (Q := Q) h1 h2 h4 h he hk
      rw [hb] at hs
      by_cases hp : p
      · have hs' := getD_bool (show a.tmps.getD k Go.undef = .bool b from hs.1 hp)
        rw [hs']
        exact ⟨fun hh => e1 ⟨hp, by simpa using hh⟩, fun hh => e2 (fun hbw => hh (by rw [hbw.2]))⟩
      · have hs' := getD_undef (hs.2 hp) want
        exact ⟨fun hh => absurd hh hs', fun _ => e2 (fun hbw => hp hbw.1)⟩
    · exact he.elim

end
end Lk
