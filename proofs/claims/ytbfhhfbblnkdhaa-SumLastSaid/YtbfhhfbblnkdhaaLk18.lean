/-
  The abstract machine, part 18: a statement whose order is open: one order stands for all.
-/
import Derived.Test.YtbfhhfbblnkdhaaLk17
import Derived.Orders
namespace Lk
open Go Go.RowKit

section
variable {P : Program}

/-- Two states agree at what an operation looks at, and at the sites that it changes. -/
structure Agr (o : AOper) (st st' : St) (ws : List Nat) : Prop where
  fr : ∀ k ∈ o.slots, st.fr k = st'.fr k
  looks : Ag st.hp st.gc st'.hp st'.gc (o.looks st.fr)
  ws : ∀ s ∈ ws, st.gc s = st'.gc s

theorem resAV_loc {gc gc' : Nat → Nat} {d : Nat} {res : List RV} (h : ∀ s ∈ sitesOf (rvEs d 0 res), gc s = gc' s) : resAV gc d res = resAV gc' d res := by
  have hrc : ∀ t x, (∀ s ∈ sitesOf (rcE d t x), gc s = gc' s) → rcAV gc d t x = rcAV gc' d t x := fun t x hx => by
    cases x with
    | im x => rfl
    | ow size n f => simp only [rcAV, hx (site d t) (by simp [rcE, sitesOf])]
  have hcs : ∀ (m t : Nat) (f : Nat → RCell), (∀ s ∈ sitesOf (rcEs d t m f), gc s = gc' s) → rcL gc d t m f = rcL gc' d t m f := by
    intro m
    induction m with
    | zero => intro t f _; rfl
    | succ m ih =>
      intro t f hx
      simp only [rcEs, sitesOf_append, List.mem_append] at hx
      funext j
      cases j with
      | zero => exact hrc t (f 0) fun s hs => hx s (.inl hs)
      | succ j => exact congrFun (ih (t + 1) (fun j => f (j + 1)) fun s hs => hx s (.inr hs)) j
  have hrv : ∀ (i : Nat) (r : RV), (∀ s ∈ sitesOf (rvE d i r), gc s = gc' s) → rvAV gc d i r = rvAV gc' d i r := fun i r hx => by
    cases r with
    | one x => exact hrc _ x hx
    | many n f => simp only [rvAV]; rw [hcs n (32 * i) f hx]
  have hat : ∀ (l : List RV) (i : Nat), (∀ s ∈ sitesOf (rvEs d i l), gc s = gc' s) → ∀ j, rvAt gc d l i j = rvAt gc' d l i j := by
    intro l
    induction l with
    | nil => intro i _ j; rfl
    | cons r l ih =>
      intro i hx j
      simp only [rvEs, sitesOf_append, List.mem_append] at hx
      cases j with
      | zero => exact hrv i r fun s hs => hx s (.inl hs)
      | succ j => exact ih (i + 1) (fun s hs => hx s (.inr hs)) j
  match res, h with
  | [], _ => rfl
  | [r], h => exact hrv 0 r fun s hs => h s (by simp only [rvEs, List.append_nil]; exact hs)
  | r :: r' :: l, h => simp only [resAV]; congr 1; funext j; exact hat _ 0 h j

theorem callR_loc {cnd : Prop} {gd : Bool} {d : Option Nat} {f : Nat} {args : List Opd} {st st' : St} {δ : Dl} (h : CallR P cnd gd d f args st δ) (hx : ∀ k ∈ args.flatMap Opd.slots, st.fr k = st'.fr k)
    (hA : Ag st.hp st.gc st'.hp st'.gc (ment st.fr (args.flatMap Opd.slots))) (hw : ∀ s ∈ sitesOf δ.hs ++ δ.gs, st.gc s = st'.gc s) : CallR P cnd gd d f args st' δ := by
  obtain ⟨pvs, hs, args', res, k, hd, h1, h2, h3, h4, h5⟩ := h
  refine ⟨pvs, hs, args', res, k, hd, by rw [← argsM_loc args _ _ hx hA]; exact h1, h2, h3, fun hg => ?_, fun hg => ?_⟩
  · obtain ⟨e1, e2, e3⟩ := h4 hg
    have hnil : rvEs k 0 res = [] := by
      have : (callD st.gc k [] res).hs = [] ++ rvEs k 0 res := rfl
      rw [this] at e1; simpa using e1
    have hr : resAV st.gc k res = resAV st'.gc k res := resAV_loc fun s hs => by rw [hnil] at hs; exact absurd hs (by simp [sitesOf])
    exact ⟨e1, e2, by rw [← hr]; exact e3⟩
  · have e := h5 hg
    have hgs : δ.gs = sitesOf (rvEs k 0 res) := by rw [e]; rfl
    have hr : resAV st.gc k res = resAV st'.gc k res := resAV_loc fun s hs => hw s (List.mem_append_right _ (by rw [hgs]; exact hs))
    rw [e]
    unfold callD
    rw [hr]

theorem ops_sub {o : AOper} {k : Nat} (h : k ∈ o.op.slots) : k ∈ o.slots := by
  unfold AOper.slots
  split
  · exact List.mem_cons_of_mem _ h
  · exact h

theorem EffR_loc {o : AOper} {st st' : St} {δ : Dl} (h : EffR P o st δ) (hg : Agr o st st' (sitesOf δ.hs ++ δ.gs)) : EffR P o st' δ := by
  have hx : ∀ k ∈ o.op.slots, st.fr k = st'.fr k := fun k hk => hg.fr k (ops_sub hk)
  have hA : Ag st.hp st.gc st'.hp st'.gc (ment st.fr o.op.slots) := hg.looks.sub fun s hs => by
    unfold AOper.looks
    refine List.mem_append_left _ ?_
    obtain ⟨k, hk, hs⟩ := List.mem_flatMap.1 hs
    exact ment_mem (ops_sub hk) hs
  have hdd : isVal o.op = true ∨ st.gc (o.d.getD 0) = st'.gc (o.d.getD 0) := by
    cases hv : isVal o.op with
    | true => exact .inl rfl
    | false =>
      refine .inr (hg.looks _ ?_).2
      unfold AOper.looks
      rw [hv]
      exact List.mem_append_right _ (by simp)
  obtain ⟨fr, hp, gc⟩ := st
  obtain ⟨fr', hp', gc'⟩ := st'
  obtain ⟨d, op, gd⟩ := o
  simp only at *
  have hgd : ∀ cnd, GdR P cnd op d ⟨fr, hp, gc⟩ δ → GdR P cnd op d ⟨fr', hp', gc'⟩ δ := fun cnd h => by
    cases op with
    | val p =>
      show (pv hp' gc' cnd fr' p).run _
      rw [← pv_loc (cnd := cnd) hx hA]
      exact h
    | call f args => exact callR_loc h hx hA hg.ws
    | _ => exact h.elim
  have heff : ((eff op (d.getD 0) True ⟨fr, hp, gc⟩).run fun x => x = δ) → (eff op (d.getD 0) True ⟨fr', hp', gc'⟩).run fun x => x = δ := by
    intro h1
    rw [← eff_loc (cnd := True) (d := d.getD 0) hx hA hdd (.inr trivial)]
    exact h1
  unfold EffR at h ⊢
  simp only at h ⊢
  cases gd with
  | none =>
    simp only at h ⊢
    cases op with
    | call f args => exact callR_loc h hx hA hg.ws
    | callv x args =>
      simp only [AOp.slots, List.mem_append] at hx
      have hA2 : Ag hp gc hp' gc' (ment fr (args.flatMap Opd.slots)) := hA.sub fun s hs => by simp only [AOp.slots]; rw [ment_append]; exact .inr hs
      show (rd True fr' x).run _
      rw [← rd_loc (fr := fr) (fr' := fr') (cnd := True) fun k hk => hx k (.inl hk)]
      refine M.mono h fun v hv => ?_
      unfold isFn at hv ⊢
      split at hv
      · exact callR_loc hv (fun k hk => hx k (.inr hk)) hA2 hg.ws
      · exact hv.elim
    | _ => exact heff h
  | some gw =>
    obtain ⟨g, want⟩ := gw
    simp only at h ⊢
    have hgs : fr g = fr' g := hg.fr g (by simp [AOper.slots])
    rw [← hgs]
    split at h
    · exact hgd _ h
    · exact hgd _ h
    · exact h.elim

end
end Lk
