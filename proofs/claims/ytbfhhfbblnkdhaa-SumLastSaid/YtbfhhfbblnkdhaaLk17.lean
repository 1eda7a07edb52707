/-
  The abstract machine, part 17: what an operation does hangs on what it looks at alone.
-/
import Derived.Test.YtbfhhfbblnkdhaaLk16
namespace Lk
open Go Go.RowKit

/-- Entries and names agree at these sites. -/
def Ag (hp : Nat → Option Ent) (gc : Nat → Nat) (hp' : Nat → Option Ent) (gc' : Nat → Nat) (S : List Nat) : Prop := ∀ s ∈ S, hp s = hp' s ∧ gc s = gc' s

section
variable {hp hp' : Nat → Option Ent} {gc gc' : Nat → Nat} {fr fr' : Nat → AV} {cnd : Prop}

theorem Ag.sub {S T : List Nat} (h : Ag hp gc hp' gc' S) (hs : ∀ s ∈ T, s ∈ S) : Ag hp gc hp' gc' T := fun s hst => h s (hs s hst)

theorem putH_congr : ∀ (l : List (Nat × Ent)) (hp hp' : Nat → Option Ent) (s : Nat), hp s = hp' s → putH l hp s = putH l hp' s
  | [], _, _, _, h => h
  | (s', e) :: l, hp, hp', s, h => putH_congr l _ _ s (by
    by_cases hs : s = s'
    · subst hs; rw [setH_same, setH_same]
    · rw [setH_ne _ _ hs, setH_ne _ _ hs]; exact h)
theorem putH_mem_congr : ∀ (l : List (Nat × Ent)) (hp hp' : Nat → Option Ent) (s : Nat), s ∈ sitesOf l → putH l hp s = putH l hp' s
  | [], _, _, _, h => absurd h (by simp [sitesOf])
  | (s', e) :: l, hp, hp', s, h => by
    by_cases hs : s = s'
    · subst hs; exact putH_congr l _ _ s (by rw [setH_same, setH_same])
    · simp only [sitesOf, List.mem_cons] at h
      exact putH_mem_congr l _ _ s (h.resolve_left hs)
theorem putG_congr : ∀ (l : List Nat) (gc gc' : Nat → Nat) (s : Nat), gc s = gc' s → putG l gc s = putG l gc' s
  | [], _, _, _, h => h
  | s' :: l, gc, gc', s, h => putG_congr l _ _ s (by
    by_cases hs : s = s'
    · subst hs; rw [bump_same, bump_same, h]
    · rw [bump_ne _ hs, bump_ne _ hs]; exact h)

theorem Ag.put {S : List Nat} (h : Ag hp gc hp' gc' S) (l : List (Nat × Ent)) : Ag (putH l hp) gc (putH l hp') gc' S := fun s hs => ⟨putH_congr l _ _ s (h s hs).1, (h s hs).2⟩

theorem getE_loc {α : Type} {s q : Nat} {f : Ent → M α} (h : hp s = hp' s ∧ gc s = gc' s) : getE hp gc s q f = getE hp' gc' s q f := by
  unfold getE; rw [h.1, h.2]

theorem opd_loc {x : Opd} (h : ∀ k ∈ x.slots, fr k = fr' k) : opd fr x = opd fr' x := by
  cases x with
  | t k => exact h k (by simp [Opd.slots])
  | k c => rfl
theorem rd_loc {x : Opd} (h : ∀ k ∈ x.slots, fr k = fr' k) : rd cnd fr x = rd cnd fr' x := by
  unfold rd; rw [opd_loc h]

/-- Behind a reading only values of the operand's sites come. -/
theorem rd_bind {β : Type} {x : Opd} {F G : AV → M β} (h : ∀ v, (∀ s ∈ v.sites, s ∈ (opd fr x).sites) → F v = G v) : (rd cnd fr x).bind F = (rd cnd fr x).bind G := by
  unfold rd rdv
  split
  case h_1 p v hv =>
    show M.imp cnd p (F v) = M.imp cnd p (G v)
    rw [h v (fun s hs => by rw [hv]; exact hs)]
  all_goals
    rename_i hv
    show F _ = G _
    exact h _ (fun s hs => by rw [hv]; exact hs)

theorem ment_mem {l : List Nat} {k s : Nat} (hk : k ∈ l) (hs : s ∈ (fr k).sites) : s ∈ ment fr l := List.mem_flatMap.2 ⟨k, hk, hs⟩
theorem opd_sites {x : Opd} {s : Nat} (h : s ∈ (opd fr x).sites) : s ∈ ment fr x.slots := by
  cases x with
  | t k => exact ment_mem (by simp [Opd.slots]) h
  | k c => cases c <;> exact absurd h (by simp [opd, Cst.av, AV.sites])

/-- One operand, read and used. -/
theorem rd_use {β : Type} {x : Opd} {F G : AV → M β} (hx : ∀ k ∈ x.slots, fr k = fr' k) (hA : Ag hp gc hp' gc' (ment fr x.slots)) (h : ∀ v, Ag hp gc hp' gc' v.sites → F v = G v) : (rd cnd fr x).bind F = (rd cnd fr' x).bind G := by
  rw [← rd_loc (cnd := cnd) hx]
  exact rd_bind fun v hv => h v (hA.sub fun s hs => opd_sites (hv s hs))

theorem load1_loc {v : AV} (h : Ag hp gc hp' gc' v.sites) : load1 hp gc v = load1 hp' gc' v := by
  cases v <;> first | rfl | exact getE_loc (h _ (by simp [AV.sites]))
theorem loadA_loc {m : Nat} {v : AV} (h : Ag hp gc hp' gc' v.sites) : loadA hp gc m v = loadA hp' gc' m v := by
  cases v <;> first | rfl | exact getE_loc (h _ (by simp [AV.sites]))
theorem loadR_loc {m : Nat} {v : AV} (h : Ag hp gc hp' gc' v.sites) : loadR hp gc m v = loadR hp' gc' m v := by
  cases v <;> first | rfl | exact getE_loc (h _ (by simp [AV.sites]))
theorem b2s_loc {v : AV} (h : Ag hp gc hp' gc' v.sites) : b2s hp gc v = b2s hp' gc' v := by
  cases v with
  | os s q sz off len => exact getE_loc (h _ (by simp [AV.sites]))
  | c x => cases x <;> rfl
  | _ => rfl
theorem slA_loc {size len : Nat} {v : AV} (h : Ag hp gc hp' gc' v.sites) : slA hp gc size len v = slA hp' gc' size len v := by
  cases v <;> first | rfl | exact getE_loc (h _ (by simp [AV.sites]))

theorem optI_loc {α : Type} {x : Option Opd} {F G : Option Int → M α} (hx : ∀ k ∈ oslots x, fr k = fr' k) (h : ∀ n, F n = G n) : optI cnd fr x F = optI cnd fr' x G := by
  have : F = G := funext h
  subst this
  cases x with
  | none => rfl
  | some x =>
    show (rd cnd fr x).bind _ = (rd cnd fr' x).bind _
    rw [rd_loc (fr := fr) (fr' := fr') hx]

theorem fillP_loc : ∀ (l : List (Nat × Nat × Opd)) (f : Nat → AV), (∀ k ∈ l.flatMap (fun p => p.2.2.slots), fr k = fr' k) → fillP cnd fr l f = fillP cnd fr' l f
  | [], f, _ => rfl
  | (off, size, x) :: r, f, h => by
    simp only [List.flatMap_cons, List.mem_append] at h
    have h1 : ∀ k ∈ x.slots, fr k = fr' k := fun k hk => h k (.inl hk)
    have h2 : ∀ f, fillP cnd fr r f = fillP cnd fr' r f := fun f => fillP_loc r f fun k hk => h k (.inr hk)
    simp only [fillP, rd_loc (cnd := cnd) h1]
    congr 1
    funext v
    cases v <;> simp only [h2]

theorem mmL_loc {mx : Bool} {kk : IntKind} : ∀ (l : List Opd) (n : Int), (∀ k ∈ l.flatMap Opd.slots, fr k = fr' k) → mmL cnd fr mx kk n l = mmL cnd fr' mx kk n l
  | [], n, _ => rfl
  | x :: r, n, h => by
    simp only [List.flatMap_cons, List.mem_append] at h
    have h1 : ∀ k ∈ x.slots, fr k = fr' k := fun k hk => h k (.inl hk)
    have h2 : ∀ n, mmL cnd fr mx kk n r = mmL cnd fr' mx kk n r := fun n => mmL_loc r n fun k hk => h k (.inr hk)
    simp only [mmL, rd_loc (cnd := cnd) h1, h2]

theorem pv_loc {p : POp} (hx : ∀ k ∈ p.slots, fr k = fr' k) (hA : Ag hp gc hp' gc' (ment fr p.slots)) : pv hp gc cnd fr p = pv hp' gc' cnd fr' p := by
  cases p with
  | mov x => exact rd_loc hx
  | por c b =>
    simp only [POp.slots, List.mem_append] at hx
    simp only [pv, rd_loc (cnd := cnd) fun k hk => hx k (.inl hk)]
    congr 1; funext v; cases v <;> try rfl
    rename_i x; cases x <;> try rfl
    simp only [asB, rd_loc (fr := fr) (fr' := fr') fun k hk => hx k (.inr hk)]
  | pand c b =>
    simp only [POp.slots, List.mem_append] at hx
    simp only [pv, rd_loc (cnd := cnd) fun k hk => hx k (.inl hk)]
    congr 1; funext v; cases v <;> try rfl
    rename_i x; cases x <;> try rfl
    simp only [asB, rd_loc (fr := fr) (fr' := fr') fun k hk => hx k (.inr hk)]
  | build n z parts => simp only [pv, fillP_loc parts (avs z) hx]
  | load1 x => exact rd_use hx hA fun v hv => load1_loc hv
  | loadA m x => exact rd_use hx hA fun v hv => loadA_loc hv
  | loadR m x => exact rd_use hx hA fun v hv => loadR_loc hv
  | field off x => simp only [pv, rd_loc (cnd := cnd) hx]
  | ixS size x i =>
    simp only [POp.slots, List.mem_append] at hx
    simp only [pv, rd_loc (cnd := cnd) fun k hk => hx k (.inl hk), rd_loc (cnd := cnd) fun k hk => hx k (.inr hk)]
  | ixA size len x i =>
    simp only [POp.slots, List.mem_append] at hx
    simp only [pv, rd_loc (cnd := cnd) fun k hk => hx k (.inl hk), rd_loc (cnd := cnd) fun k hk => hx k (.inr hk)]
  | nilc x => simp only [pv, rd_loc (cnd := cnd) hx]
  | bin o chk x y =>
    simp only [POp.slots, List.mem_append] at hx
    simp only [pv, rd_loc (cnd := cnd) fun k hk => hx k (.inl hk), rd_loc (cnd := cnd) fun k hk => hx k (.inr hk)]
  | eqA neg ts x y =>
    simp only [POp.slots, List.mem_append] at hx
    simp only [pv, rd_loc (cnd := cnd) fun k hk => hx k (.inl hk), rd_loc (cnd := cnd) fun k hk => hx k (.inr hk)]
  | eqB neg x y =>
    simp only [POp.slots, List.mem_append] at hx
    simp only [pv, rd_loc (cnd := cnd) fun k hk => hx k (.inl hk), rd_loc (cnd := cnd) fun k hk => hx k (.inr hk)]
  | not x => simp only [pv, rd_loc (cnd := cnd) hx]
  | com x => simp only [pv, rd_loc (cnd := cnd) hx]
  | conv chk k x => simp only [pv, rd_loc (cnd := cnd) hx]
  | b2s x => exact rd_use hx hA fun v hv => b2s_loc hv
  | slT x lo hi =>
    simp only [POp.slots, List.mem_append] at hx
    simp only [pv, rd_loc (cnd := cnd) fun k hk => hx k (.inl (.inl hk))]
    congr 1; funext v; unfold asS
    cases v <;> try rfl
    rename_i x; cases x <;> try rfl
    exact optI_loc (fun k hk => hx k (.inl (.inr hk))) fun n => optI_loc (fun k hk => hx k (.inr hk)) fun m => rfl
  | slS size x lo hi =>
    simp only [POp.slots, List.mem_append] at hx
    simp only [pv, rd_loc (cnd := cnd) fun k hk => hx k (.inl (.inl hk))]
    congr 1; funext v
    exact optI_loc (fun k hk => hx k (.inl (.inr hk))) fun n => optI_loc (fun k hk => hx k (.inr hk)) fun m => rfl
  | slA size len x => exact rd_use hx hA fun v hv => slA_loc hv
  | idx x i =>
    simp only [POp.slots, List.mem_append] at hx
    simp only [pv, rd_loc (cnd := cnd) fun k hk => hx k (.inl hk), rd_loc (cnd := cnd) fun k hk => hx k (.inr hk)]
  | idxA len x i =>
    simp only [POp.slots, List.mem_append] at hx
    simp only [pv, rd_loc (cnd := cnd) fun k hk => hx k (.inl hk), rd_loc (cnd := cnd) fun k hk => hx k (.inr hk)]
  | lenS x => simp only [pv, rd_loc (cnd := cnd) hx]
  | lenT x => simp only [pv, rd_loc (cnd := cnd) hx]
  | lenK n => rfl
  | mm mx x xs =>
    simp only [POp.slots, List.mem_append] at hx
    simp only [pv, rd_loc (cnd := cnd) fun k hk => hx k (.inl hk)]
    congr 1; funext v; unfold asI
    cases v <;> try rfl
    rename_i x; cases x <;> try rfl
    exact mmL_loc xs _ fun k hk => hx k (.inr hk)
  | extr i x => simp only [pv, rd_loc (cnd := cnd) hx]

/-! freezing -/

theorem frzC_loc {v : AV} (h : Ag hp gc hp' gc' v.sites) : frzC hp gc v = frzC hp' gc' v := by
  cases v <;> first | rfl | exact getE_loc (h _ (by simp [AV.sites]))

theorem agg_sites {n : Nat} {f : Nat → AV} {j s : Nat} (hj : j < n) (h : s ∈ (f j).sites) : s ∈ (AV.agg n f).sites := List.mem_flatMap.2 ⟨j, by simpa using hj, h⟩

theorem frzN_loc : ∀ (m j : Nat) (f : Nat → AV) (hp hp' : Nat → Option Ent), (∀ i, i < m → Ag hp gc hp' gc' (f (j + i)).sites) → frzN hp gc m j f = frzN hp' gc' m j f
  | 0, j, f, hp, hp', _ => rfl
  | m + 1, j, f, hp, hp', h => by
    have h0 : Ag hp gc hp' gc' (f j).sites := h 0 (by omega)
    simp only [frzN, frzC_loc h0]
    congr 1; funext x
    rw [frzN_loc m (j + 1) f (putH x.2 hp) (putH x.2 hp') fun i hi => by
      have := h (i + 1) (by omega)
      rw [show j + 1 + i = j + (i + 1) by omega]
      exact this.put x.2]

theorem stoV_loc {keep : Bool} {v : AV} (h : Ag hp gc hp' gc' v.sites) : stoV hp gc keep v = stoV hp' gc' keep v := by
  cases v with
  | os s q size off len => simp only [stoV, frzC_loc h]
  | _ => rfl
theorem stoN_loc {keep : Bool} : ∀ (m j : Nat) (f : Nat → AV) (hp hp' : Nat → Option Ent), (∀ i, i < m → Ag hp gc hp' gc' (f (j + i)).sites) → stoN hp gc keep m j f = stoN hp' gc' keep m j f
  | 0, j, f, hp, hp', _ => rfl
  | m + 1, j, f, hp, hp', h => by
    have h0 : Ag hp gc hp' gc' (f j).sites := h 0 (by omega)
    simp only [stoN, stoV_loc h0]
    congr 1; funext x
    rw [stoN_loc m (j + 1) f (putH x.2 hp) (putH x.2 hp') fun i hi => by
      have := h (i + 1) (by omega)
      rw [show j + 1 + i = j + (i + 1) by omega]
      exact this.put x.2]

theorem argM_loc {v : AV} (h : Ag hp gc hp' gc' v.sites) : argM hp gc v = argM hp' gc' v := by
  cases v with
  | agg n f =>
    simp only [argM]
    rw [frzN_loc n 0 f hp hp' fun i hi => h.sub fun s hs => agg_sites (j := i) hi (by rwa [Nat.zero_add] at hs)]
  | _ => simp only [argM, frzC_loc h]

theorem ment_append (l m : List Nat) (s : Nat) : s ∈ ment fr (l ++ m) ↔ s ∈ ment fr l ∨ s ∈ ment fr m := by
  simp only [ment, List.flatMap_append, List.mem_append]

theorem argsM_loc : ∀ (l : List Opd) (hp hp' : Nat → Option Ent), (∀ k ∈ l.flatMap Opd.slots, fr k = fr' k) → Ag hp gc hp' gc' (ment fr (l.flatMap Opd.slots)) → argsM cnd hp gc fr l = argsM cnd hp' gc' fr' l
  | [], hp, hp', _, _ => rfl
  | x :: r, hp, hp', h, hA => by
    simp only [List.flatMap_cons, List.mem_append] at h
    have hA1 : Ag hp gc hp' gc' (ment fr x.slots) := hA.sub fun s hs => by rw [List.flatMap_cons, ment_append]; exact .inl hs
    have hA2 : Ag hp gc hp' gc' (ment fr (r.flatMap Opd.slots)) := hA.sub fun s hs => by rw [List.flatMap_cons, ment_append]; exact .inr hs
    unfold argsM
    refine rd_use (fun k hk => h k (.inl hk)) hA1 fun v hv => ?_
    rw [argM_loc hv]
    congr 1; funext p
    rw [argsM_loc r _ _ (fun k hk => h k (.inr hk)) (hA2.put p.2)]

theorem partsL_loc {size : Nat} : ∀ (l : List (Nat × Opd)) (hp hp' : Nat → Option Ent), (∀ k ∈ l.flatMap (fun p => p.2.slots), fr k = fr' k) → Ag hp gc hp' gc' (ment fr (l.flatMap fun p => p.2.slots)) →
    partsL hp gc fr size l = partsL hp' gc' fr' size l
  | [], hp, hp', _, _ => rfl
  | (i, x) :: r, hp, hp', h, hA => by
    simp only [List.flatMap_cons, List.mem_append] at h
    have hA1 : Ag hp gc hp' gc' (ment fr x.slots) := hA.sub fun s hs => by rw [List.flatMap_cons, ment_append]; exact .inl hs
    have hA2 : Ag hp gc hp' gc' (ment fr (r.flatMap fun p => p.2.slots)) := hA.sub fun s hs => by rw [List.flatMap_cons, ment_append]; exact .inr hs
    unfold partsL
    refine rd_use (fun k hk => h k (.inl hk)) hA1 fun v hv => ?_
    have h1 : frzN hp gc 1 0 (fun _ => v) = frzN hp' gc' 1 0 (fun _ => v) := frzN_loc 1 0 _ _ _ fun i hi => hv
    have h2 : (fun y : (Nat → Cell) × List (Nat × Ent) => (partsL (putH y.2 hp) gc fr size r).bind fun z => M.ret ((i, y.1) :: z.1, y.2 ++ z.2)) =
        fun y : (Nat → Cell) × List (Nat × Ent) => (partsL (putH y.2 hp') gc' fr' size r).bind fun z => M.ret ((i, y.1) :: z.1, y.2 ++ z.2) := by
      funext y
      rw [partsL_loc r _ _ (fun k hk => h k (.inr hk)) (hA2.put y.2)]
    rw [h2]
    cases v with
    | agg n f =>
      simp only
      rw [frzN_loc n 0 f hp hp' fun i hi => hv.sub fun s hs => agg_sites (j := i) hi (by rwa [Nat.zero_add] at hs)]
    | _ => simp only [h1]

theorem srcV_loc {α : Type} {size : Nat} {v : AV} {K : Nat → (Nat → Nat → Cell) → M α} (h : Ag hp gc hp' gc' v.sites) : srcV hp gc size v K = srcV hp' gc' size v K := by
  cases v with
  | os s q sz off len => exact getE_loc (h _ (by simp [AV.sites]))
  | c x => cases x <;> rfl
  | _ => rfl

theorem eff_loc {op : AOp} {d : Nat} (hx : ∀ k ∈ op.slots, fr k = fr' k) (hA : Ag hp gc hp' gc' (ment fr op.slots)) (hd : isVal op = true ∨ gc d = gc' d) (hst : isSt op = true ∨ True) :
    eff op d cnd ⟨fr, hp, gc⟩ = eff op d cnd ⟨fr', hp', gc'⟩ := by
  cases op with
  | val p => simp only [eff, pv_loc (cnd := cnd) hx hA]
  | alloc size z => simp only [eff, Dl.var, hd.resolve_left (by simp [isVal])]
  | allocR rows size z => simp only [eff, Dl.arr, hd.resolve_left (by simp [isVal])]
  | box size x => simp only [eff, Dl.var, hd.resolve_left (by simp [isVal]), rd_loc (cnd := True) hx]
  | boxR n x => simp only [eff, Dl.arr, hd.resolve_left (by simp [isVal]), rd_loc (cnd := True) hx]
  | buildS size len z parts =>
    simp only [eff, hd.resolve_left (by simp [isVal])]
    rw [partsL_loc parts hp hp' hx hA]
  | mk size bytes z n => simp only [eff, Dl.sli, hd.resolve_left (by simp [isVal]), rd_loc (cnd := True) hx]
  | s2b x => simp only [eff, Dl.sli, hd.resolve_left (by simp [isVal]), rd_loc (cnd := True) hx]
  | app size bytes x y =>
    simp only [AOp.slots, List.mem_append] at hx
    have hA1 : Ag hp gc hp' gc' (ment fr x.slots) := hA.sub fun s hs => by simp only [AOp.slots]; rw [ment_append]; exact .inl hs
    have hA2 : Ag hp gc hp' gc' (ment fr y.slots) := hA.sub fun s hs => by simp only [AOp.slots]; rw [ment_append]; exact .inr hs
    have hd := hd.resolve_left (by simp [isVal])
    unfold eff
    refine rd_use (fun k hk => hx k (.inl hk)) hA1 fun v hv => ?_
    refine rd_use (fun k hk => hx k (.inr hk)) hA2 fun u hu => ?_
    simp only
    rw [srcV_loc hu]
    congr 1; funext m g
    cases v with
    | nil z => simp only [Dl.sli, hd]
    | os s q sz off len =>
      have hs := hv s (by simp [AV.sites])
      simp only
      rw [getE_loc hs]
      simp only [Dl.sli, hs.2]
    | _ => rfl
  | st1 keep x v =>
    simp only [AOp.slots, List.mem_append] at hx
    have hA1 : Ag hp gc hp' gc' (ment fr x.slots) := hA.sub fun s hs => by simp only [AOp.slots]; rw [ment_append]; exact .inl hs
    have hA2 : Ag hp gc hp' gc' (ment fr v.slots) := hA.sub fun s hs => by simp only [AOp.slots]; rw [ment_append]; exact .inr hs
    unfold eff
    refine rd_use (fun k hk => hx k (.inl hk)) hA1 fun p hp1 => ?_
    refine rd_use (fun k hk => hx k (.inr hk)) hA2 fun u hu => ?_
    simp only
    rw [stoV_loc hu]
    congr 1; funext y
    cases p with
    | va s q col => exact getE_loc ((hp1.put y.2) s (by simp [AV.sites]))
    | ra s q size row col => exact getE_loc ((hp1.put y.2) s (by simp [AV.sites]))
    | _ => rfl
  | stA keep m x v =>
    simp only [AOp.slots, List.mem_append] at hx
    have hA1 : Ag hp gc hp' gc' (ment fr x.slots) := hA.sub fun s hs => by simp only [AOp.slots]; rw [ment_append]; exact .inl hs
    have hA2 : Ag hp gc hp' gc' (ment fr v.slots) := hA.sub fun s hs => by simp only [AOp.slots]; rw [ment_append]; exact .inr hs
    unfold eff
    refine rd_use (fun k hk => hx k (.inl hk)) hA1 fun p hp1 => ?_
    refine rd_use (fun k hk => hx k (.inr hk)) hA2 fun u hu => ?_
    simp only
    cases u with
    | agg n f =>
      simp only
      cases hn : Nat.beq n m with
      | false => rfl
      | true =>
        obtain rfl := beqN hn
        rw [stoN_loc n 0 f hp hp' fun i hi => hu.sub fun s hs => agg_sites (j := i) hi (by rwa [Nat.zero_add] at hs)]
        congr 2; funext y
        cases p with
        | va s q col => exact getE_loc ((hp1.put y.2) s (by simp [AV.sites]))
        | ra s q size row col => exact getE_loc ((hp1.put y.2) s (by simp [AV.sites]))
        | _ => rfl
    | _ => rfl
  | stR m x v =>
    simp only [AOp.slots, List.mem_append] at hx
    have hA1 : Ag hp gc hp' gc' (ment fr x.slots) := hA.sub fun s hs => by simp only [AOp.slots]; rw [ment_append]; exact .inl hs
    have hA2 : Ag hp gc hp' gc' (ment fr v.slots) := hA.sub fun s hs => by simp only [AOp.slots]; rw [ment_append]; exact .inr hs
    unfold eff
    refine rd_use (fun k hk => hx k (.inl hk)) hA1 fun p hp1 => ?_
    refine rd_use (fun k hk => hx k (.inr hk)) hA2 fun u hu => ?_
    simp only
    cases u with
    | agg n f =>
      simp only
      congr 1
      cases p with
      | ra s q size row col => exact getE_loc (hp1 s (by simp [AV.sites]))
      | _ => rfl
    | _ => rfl
  | call f args => rfl
  | callv x args => rfl
  | halt => rfl

end
end Lk
