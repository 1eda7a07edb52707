/-
  The abstract machine, part 15: one operation of a region, guarded or not, is sound.
-/
import Derived.Test.YtbfhhfbblnkdhaaLk14
namespace Lk
open Go Go.RowKit

theorem frc_iff (v : AV) (K : AV → Prop) : frc v K ↔ K v := by
  unfold frc
  split <;> first | exact Iff.rfl | skip
  split <;> exact Iff.rfl

theorem goH_iff : ∀ (l : List (Nat × Ent)) (hp : Nat → Option Ent) (K : (Nat → Option Ent) → Prop), goH l hp K ↔ K (putH l hp)
  | [], _, _ => Iff.rfl
  | (s, e) :: r, hp, K => goH_iff r (setH hp s e) K
theorem goG_iff : ∀ (l : List Nat) (gc : Nat → Nat) (K : (Nat → Nat) → Prop), goG l gc K ↔ K (putG l gc)
  | [], _, _ => Iff.rfl
  | s :: r, gc, K => goG_iff r (bump gc s) K

/-- A change carried out. -/
def St.chg (st : St) (d : Option Nat) (x : Dl) : St := ⟨putF st.fr d x.v, putH x.hs st.hp, putG x.gs st.gc⟩

theorem goD_iff (fr : Nat → AV) (hp : Nat → Option Ent) (gc : Nat → Nat) (d : Option Nat) (wr : AV → AV) (x : Dl) (K : St → Prop) :
    goD fr hp gc d wr x K ↔ K (St.chg ⟨fr, hp, gc⟩ d ⟨wr x.v, x.hs, x.gs⟩) := by
  obtain ⟨v, hs, gs⟩ := x
  simp only [goD, goH_iff, goG_iff]
  cases d with
  | none => exact Iff.rfl
  | some k => simp only [frc_iff]; exact Iff.rfl
theorem goW_iff (fr : Nat → AV) (hp : Nat → Option Ent) (gc : Nat → Nat) (d : Option Nat) (wr : AV → AV) (x : Dl) (K : St → List Nat → Prop) :
    goW fr hp gc d wr x K ↔ K (St.chg ⟨fr, hp, gc⟩ d ⟨wr x.v, x.hs, x.gs⟩) (sitesOf x.hs ++ x.gs) := by
  obtain ⟨v, hs, gs⟩ := x
  simp only [goW, goH_iff, goG_iff]
  cases d with
  | none => exact Iff.rfl
  | some k => simp only [frc_iff]; exact Iff.rfl

/-- What a call changes. -/
def CallR (P : Program) (cnd : Prop) (gd : Bool) (d : Option Nat) (f : Nat) (args : List Opd) (st : St) (δ : Dl) : Prop :=
  ∃ pvs hs args' res k, d = some k ∧ (argsM cnd st.hp st.gc st.fr args).run (fun x => x = (pvs, hs)) ∧ (cnd → FnOk P f args' res) ∧ (cnd → PVsEq pvs args') ∧
    (gd = true → (callD st.gc k [] res).hs = [] ∧ (callD st.gc k [] res).gs = [] ∧ δ = ⟨.may cnd (resAV st.gc k res), hs, []⟩) ∧ (gd = false → δ = callD st.gc k hs res)

/-- What an operation other than a guarded one changes. -/
def OpR (P : Program) (op : AOp) (d : Option Nat) (st : St) (δ : Dl) : Prop :=
  match op with
  | .call f args => CallR P True false d f args st δ
  | .callv x args => (rd True st.fr x).run fun v => isFn v fun f => CallR P True false d f args st δ
  | op => (eff op (d.getD 0) True st).run fun x => x = δ

def GdR (P : Program) (cnd : Prop) (op : AOp) (d : Option Nat) (st : St) (δ : Dl) : Prop :=
  match op with
  | .val p => (pv st.hp st.gc cnd st.fr p).run fun v => δ = .val (.may cnd v)
  | .call f args => CallR P cnd true d f args st δ
  | _ => False

def EffR (P : Program) (o : AOper) (st : St) (δ : Dl) : Prop :=
  match o.gd with
  | none => OpR P o.op o.d st δ
  | some (g, want) => match st.fr g with
    | .c (.bool b) => GdR P (b = want) o.op o.d st δ
    | .may p (.c (.bool b)) => GdR P (p ∧ b = want) o.op o.d st δ
    | _ => False

section
variable {P : Program}

theorem isPure_run {x : Dl} {α : Type} {m : M α} {K : α → Prop} (h : (isPure x m).run K) : x.hs = [] ∧ x.gs = [] ∧ m.run K := by
  unfold isPure at h
  split at h
  · rename_i h1
    split at h
    · rename_i h2; exact ⟨h1, h2, h⟩
    · exact h.elim
  · exact h.elim

theorem callW_split {cnd : Prop} {gd : Bool} {wr : AV → AV} (hwr : (gd = true → wr = .may cnd) ∧ (gd = false → wr = fun v => v)) {d : Option Nat} {f : Nat} {args : List Opd} {fr : Nat → AV} {hp : Nat → Option Ent} {gc : Nat → Nat} {K : St → List Nat → Prop}
    (h : callW P cnd gd wr d f args fr hp gc K) : ∃ δ, CallR P cnd gd d f args ⟨fr, hp, gc⟩ δ ∧ K (St.chg ⟨fr, hp, gc⟩ d δ) (sitesOf δ.hs ++ δ.gs) := by
  obtain ⟨⟨pvs, hs⟩, hx, h⟩ := M.split h
  obtain ⟨args', res, h1, h2, h⟩ := h.out
  cases d with
  | none => exact h.elim
  | some k =>
    cases gd with
    | true =>
      simp only [cond_true] at h
      obtain ⟨e1, e2, h⟩ := isPure_run h
      replace h : goW fr hp gc (some k) wr ⟨resAV gc k res, hs, []⟩ K := h
      replace h := (goW_iff ..).1 h
      rw [hwr.1 rfl] at h
      exact ⟨_, ⟨pvs, hs, args', res, k, rfl, hx, h1, h2, fun _ => ⟨e1, e2, rfl⟩, fun h => absurd h (by simp)⟩, h⟩
    | false =>
      simp only [cond_false] at h
      replace h := (goW_iff ..).1 h
      rw [hwr.2 rfl] at h
      exact ⟨_, ⟨pvs, hs, args', res, k, rfl, hx, h1, h2, fun h => absurd h (by simp), fun _ => rfl⟩, h⟩

theorem stepWG_split {cnd : Prop} {op : AOp} {d : Option Nat} {fr : Nat → AV} {hp : Nat → Option Ent} {gc : Nat → Nat} {K : St → List Nat → Prop} (h : stepWG P cnd (.may cnd) op d fr hp gc K) :
    ∃ δ, GdR P cnd op d ⟨fr, hp, gc⟩ δ ∧ K (St.chg ⟨fr, hp, gc⟩ d δ) (sitesOf δ.hs ++ δ.gs) := by
  cases op with
  | val p =>
    obtain ⟨v, hv, h⟩ := M.split h
    replace h := (goW_iff ..).1 h
    exact ⟨.val (.may cnd v), M.mono hv fun x hx => by rw [hx], h⟩
  | call f args => exact callW_split ⟨fun _ => rfl, fun h => absurd h (by simp)⟩ h
  | _ => exact h.elim

theorem eff_split {op : AOp} {d : Option Nat} {fr : Nat → AV} {hp : Nat → Option Ent} {gc : Nat → Nat} {K : St → List Nat → Prop}
    (h : effOW K op d fr hp gc) :
    ∃ δ, (eff op (d.getD 0) True ⟨fr, hp, gc⟩).run (fun x => x = δ) ∧ K (St.chg ⟨fr, hp, gc⟩ d δ) (sitesOf δ.hs ++ δ.gs) := by
  cases d with
  | some k =>
    obtain ⟨δ, h1, h⟩ := M.split h
    exact ⟨δ, h1, (goW_iff ..).1 h⟩
  | none =>
    obtain ⟨δ, h1, h⟩ := M.split h
    exact ⟨δ, h1, (goW_iff ..).1 h⟩

theorem stepW_split {o : AOper} {st : St} {K : St → List Nat → Prop} (h : stepW P o st K) : ∃ δ, EffR P o st δ ∧ K (st.chg o.d δ) (sitesOf δ.hs ++ δ.gs) := by
  obtain ⟨fr, hp, gc⟩ := st
  obtain ⟨d, op, gd⟩ := o
  unfold stepW at h
  unfold EffR
  simp only at h ⊢
  cases gd with
  | none =>
    simp only at h ⊢
    cases op with
    | call f args => exact callW_split ⟨fun h => absurd h (by simp), fun _ => rfl⟩ h
    | callv x args =>
      obtain ⟨v, hv, h⟩ := M.split h
      unfold isFn at h
      split at h
      · obtain ⟨δ, h1, h2⟩ := callW_split ⟨fun h => absurd h (by simp), fun _ => rfl⟩ h
        exact ⟨δ, M.mono hv fun x hx => by rw [hx]; exact h1, h2⟩
      · exact h.elim
    | _ => exact eff_split h
  | some gw =>
    obtain ⟨g, want⟩ := gw
    simp only at h ⊢
    split at h
    · rename_i b hb
      simp only [hb]
      exact stepWG_split h
    · rename_i p b hb
      simp only [hb]
      exact stepWG_split h
    · exact h.elim

theorem goD_W {fr : Nat → AV} {hp : Nat → Option Ent} {gc : Nat → Nat} {d : Option Nat} {wr : AV → AV} {x : Dl} {K : St → Prop} (h : goD fr hp gc d wr x K) : goW fr hp gc d wr x fun st _ => K st :=
  (goW_iff ..).2 ((goD_iff ..).1 h)

theorem step_W {o : AOper} {st : St} {K : St → Prop} (h : step P o st K) : stepW P o st fun st _ => K st := by
  obtain ⟨fr, hp, gc⟩ := st
  obtain ⟨d, op, gd⟩ := o
  have hcall : ∀ cnd gd wr d f args, callP P cnd gd wr d f args fr hp gc K → callW P cnd gd wr d f args fr hp gc fun st _ => K st := by
    intro cnd gd wr d f args h
    refine M.mono h fun x hx => ?_
    obtain ⟨pvs, hs⟩ := x
    obtain ⟨args', res, h1, h2, h⟩ := hx.out
    refine ⟨args', res, h1, h2, ?_⟩
    cases d with
    | none => exact h
    | some k =>
      cases gd with
      | true => exact M.mono h fun _ h => (goW_iff ..).2 ((goD_iff ..).1 h)
      | false =>
        replace h : goD fr hp gc (some k) wr (callD gc k hs res) K := h
        exact goD_W h
  have hG : ∀ cnd wr, stepG P cnd wr op d fr hp gc K → stepWG P cnd wr op d fr hp gc fun st _ => K st := by
    intro cnd wr h
    cases op with
    | val p => exact M.mono h fun _ h => (goW_iff ..).2 ((goD_iff ..).1 h)
    | call f args => exact hcall _ _ _ _ _ _ h
    | _ => exact h.elim
  have hE : ∀ (op : AOp) (d : Option Nat), effO K op d fr hp gc → effOW (fun st _ => K st) op d fr hp gc := by
    intro op d h
    cases d with
    | some k => exact M.mono h fun _ h => (goW_iff ..).2 ((goD_iff ..).1 h)
    | none => exact M.mono h fun _ h => (goW_iff ..).2 ((goD_iff ..).1 h)
  unfold step at h
  unfold stepW
  simp only at h ⊢
  cases gd with
  | none =>
    simp only at h ⊢
    cases op with
    | call f args => exact hcall _ _ _ _ _ _ h
    | callv x args =>
      refine M.mono h fun v h => ?_
      unfold isFn at h ⊢
      split at h
      · exact hcall _ _ _ _ _ _ h
      · exact h.elim
    | _ => exact hE _ d h
  | some gw =>
    obtain ⟨g, want⟩ := gw
    simp only at h ⊢
    split at h
    · exact hG _ _ h
    · exact hG _ _ h
    · exact h.elim

end
end Lk
