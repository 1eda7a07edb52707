/-
  The abstract machine, part 24: a law's statement, from its contract for all arguments of its parameters' shapes.
-/
import Derived.Test.YtbfhhfbblnkdhaaLk23
import Derived.Carry
import Derived.Deep.Slices
import Derived.ChangeSame
import Derived.RowKit
namespace Lk
open Go Go.RowKit Go.ChangeShapes Go.WideShapes Go.Deep

/-- What a cell may hold. -/
inductive Sh where
  | int (k : IntKind)
  | bool
  | str
  | sl (l : List Sh)

inductive SC : Sh → Cell → Prop
  | int (k : IntKind) (n : Int) (h : rng k n) : SC (.int k) (.int k n)
  | bool (b : Bool) : SC .bool (.bool b)
  | str (s : List UInt8) (h : s.length ≤ 9223372036854775807) : SC .str (.str s)
  | sl (l : List Sh) (n : Nat) (f : Nat → Nat → Cell) (hn : n ≤ 9223372036854775807) (h : ∀ i, i < n → ∀ j sh, l[j]? = some sh → SC sh (f i j)) : SC (.sl l) (.sl l.length n f)

/-- A type's cells. -/
def shT (P : Program) : Nat → TypeId → List Sh
  | 0, _ => []
  | n + 1, t => match P.underlying t with
    | some .bool => [.bool]
    | some (.int k) => [.int k]
    | some .string => [.str]
    | some (.slice e) => [.sl (shT P n e)]
    | some (.struct fs) => fs.toList.flatMap fun f => shT P n f.type
    | _ => []

def okFs (P : Program) (ok : TypeId → Bool) (sh : TypeId → List Sh) : Nat → List Field → Bool
  | _, [] => true
  | off, f :: r => Nat.beq f.offset off && Nat.beq (P.cellsOf f.type) (sh f.type).length && ok f.type && okFs P ok sh (off + (sh f.type).length) r

def okT (P : Program) : Nat → TypeId → Bool
  | 0, _ => false
  | n + 1, t => match P.underlying t with
    | some .bool => true
    | some (.int _) => true
    | some .string => true
    | some (.slice e) => okT P n e && Nat.beq (P.cellsOf e) (shT P n e).length && Nat.ble 1 (shT P n e).length
    | some (.struct fs) => Nat.beq (P.cellsOf t) (fs.toList.flatMap fun f => shT P n f.type).length && okFs P (okT P n) (shT P n) 0 fs.toList
    | _ => false

/-- A cell that may be had. -/
def Gd (w : World) (sh : Sh) (u : Value) (c : Cell) : Prop := RC (fun _ => False) w c u ∧ SC sh c

section
variable {H : Type} {enc : TypeId × Value → H} {P : Program} {w : World}

theorem rng_wf {k : IntKind} {n : Int} (h : (Lit.int k n).wf = true) : rng k n := by
  cases k <;> simp [Lit.wf, IntKind.min, IntKind.max, IntKind.signed, IntKind.bits] at h <;> exact h

theorem okFs_sound {m : Nat} {cs : List Value} {ok : TypeId → Bool} {sh : TypeId → List Sh}
    (ih : ∀ t (cs : List Value) x, ok t = true → DataW.trod enc P w 0 (fun _ => true) true m t cs = some x → ∀ (j : Nat) (s : Sh), (sh t)[j]? = some s → ∃ (u : Value) (c : Cell), cs[j]? = some u ∧ Gd w s u c) :
    ∀ (l : List Field) (off : Nat), okFs P ok sh off l = true → (∀ f ∈ l, ∃ x, DataW.trod enc P w 0 (fun _ => true) true m f.type ((cs.drop f.offset).take (P.cellsOf f.type)) = some x) →
    ∀ (j : Nat) (s : Sh), (l.flatMap fun f => sh f.type)[j]? = some s → ∃ (u : Value) (c : Cell), cs[off + j]? = some u ∧ Gd w s u c
  | [], off, _, _, j, s, h => absurd h (by simp)
  | f :: r, off, hok, hx, j, s, h => by
    simp only [okFs, Bool.and_eq_true] at hok
    obtain ⟨⟨⟨h1, h2⟩, h3⟩, h4⟩ := hok
    have h1 := beqN h1
    have h2 := beqN h2
    simp only [List.flatMap_cons] at h
    by_cases hj : j < (sh f.type).length
    · rw [List.getElem?_append_left hj] at h
      obtain ⟨x, hx⟩ := hx f (by simp)
      obtain ⟨u, c, hu, hg⟩ := ih _ _ _ h3 hx j s h
      refine ⟨u, c, ?_, hg⟩
      rw [List.getElem?_take, if_pos (by omega), List.getElem?_drop, h1] at hu
      exact hu
    · rw [List.getElem?_append_right (by omega)] at h
      obtain ⟨u, c, hu, hg⟩ := okFs_sound ih r _ h4 (fun f hf => hx f (List.mem_cons_of_mem _ hf)) _ s h
      exact ⟨u, c, by rw [← hu]; congr 1; omega, hg⟩

theorem trod_sh : ∀ (n fuel : Nat) (t : TypeId) (cs : List Value) (x : DataW H × List MemPlace), okT P n t = true → DataW.trod enc P w 0 (fun _ => true) true fuel t cs = some x →
    cs.length = (shT P n t).length ∧ ∀ (j : Nat) (s : Sh), (shT P n t)[j]? = some s → ∃ (u : Value) (c : Cell), cs[j]? = some u ∧ Gd w s u c
  | 0, _, _, _, _, h, _ => absurd h (by simp [okT])
  | n + 1, fuel, t, cs, x, hok, h => by
    have one : ∀ {u : Value} {c : Cell} {s0 : Sh}, cs = [u] → Gd w s0 u c → cs.length = [s0].length ∧ ∀ (j : Nat) (s : Sh), [s0][j]? = some s → ∃ (u : Value) (c : Cell), cs[j]? = some u ∧ Gd w s u c := fun {u c s0} e hg => by
      subst e
      refine ⟨rfl, fun j s hs => ?_⟩
      cases j with
      | zero => simp only [List.getElem?_cons_zero, Option.some.injEq] at hs; subst hs; exact ⟨u, c, rfl, hg⟩
      | succ j => simp at hs
    unfold okT at hok
    unfold shT
    split at hok
    · rename_i ht
      obtain ⟨b, hb, _⟩ := DataW.trod_bool ht h
      exact one (c := .bool b) hb ⟨rfl, .bool b⟩
    · rename_i k ht
      obtain ⟨m, hb, _, hw⟩ := DataW.trod_int ht h
      exact one (c := .int k m) hb ⟨rfl, .int k m (rng_wf hw)⟩
    · rename_i ht
      obtain ⟨s, hb, _, hw⟩ := DataW.trod_string ht h
      exact one hb (c := .str s.data.toList) ⟨rfl, .str _ (by unfold maxLen at hw; simpa using hw)⟩
    · rename_i e ht
      simp only [Bool.and_eq_true] at hok
      obtain ⟨⟨h1, h2⟩, h3⟩ := hok
      have h2 := beqN h2
      have h3 := Nat.le_of_ble_eq_true h3
      rcases open_slice ht h with ⟨hb, _⟩ | ⟨a, len, cap, m, n', D, Pl, hb, _, hl, hm, hmm, _, hel⟩
      · have := SC.sl (shT P n e) 0 (fun _ _ => .bool false) (by omega) (fun i hi => absurd hi (by omega))
        exact one (c := .sl (shT P n e).length 0 fun _ _ => .bool false) hb ⟨Or.inl ⟨rfl, none, rfl⟩, this⟩
      · rw [if_pos rfl] at hmm
        subst hmm
        have key : ∀ i, i < m → ∀ j s, (shT P n e)[j]? = some s → ∃ c, ∃ u, w.cell? (a.add (i * (shT P n e).length + j)) = some u ∧ Gd w s u c := fun i hi j s hs => by
          obtain ⟨cs', hc, ht'⟩ := hel i hi
          obtain ⟨_, hlen, hat⟩ := World.cells?_some hc
          obtain ⟨hl', ih⟩ := trod_sh n n' e cs' _ h1 ht'
          obtain ⟨u, c, hu, hg⟩ := ih j s hs
          have hj : j < (shT P n e).length := by
            rcases Nat.lt_or_ge j (shT P n e).length with h | h
            · exact h
            · rw [List.getElem?_eq_none h] at hs; cases hs
          refine ⟨c, u, ?_, hg⟩
          rw [← h2, ← add_add, hat j (by omega), hu]
        rcases Nat.eq_zero_or_pos m with h0 | h0
        · subst h0
          obtain rfl : len = 0 := by omega
          have := SC.sl (shT P n e) 0 (fun _ _ => .bool false) (by omega) (fun i hi => absurd hi (by omega))
          exact one (c := .sl (shT P n e).length 0 fun _ _ => .bool false) hb ⟨Or.inl ⟨rfl, some a, rfl⟩, this⟩
        · obtain ⟨b, o, spot⟩ := a
          have hs0 : (shT P n e)[0]? = some ((shT P n e)[0]'(by omega)) := List.getElem?_eq_getElem (by omega)
          have hspot : spot = none := by
            obtain ⟨c, u, hu, _⟩ := key 0 h0 0 _ hs0
            simp only [Nat.zero_mul, Nat.add_zero, Addr.add, if_true] at hu
            cases spot with
            | none => rfl
            | some k =>
              simp only [World.cell?] at hu
              split at hu
              · simp at hu
              · cases hu
          subst hspot
          classical
          let f : Nat → Nat → Cell := fun i j => if hi : i < m then (match hs : (shT P n e)[j]? with | some s => Classical.choose (key i hi j s hs) | none => .bool false) else .bool false
          have hf : ∀ i, i < m → ∀ j s, (shT P n e)[j]? = some s → ∃ u, w.cell? (Addr.add ⟨b, o, none⟩ (i * (shT P n e).length + j)) = some u ∧ Gd w s u (f i j) := fun i hi j s hs => by
            have h4 := Classical.choose_spec (key i hi j s hs)
            have : f i j = Classical.choose (key i hi j s hs) := by
              simp only [f, dif_pos hi]
              split
              · rename_i s' hs'
                have : s' = s := by rw [hs] at hs'; exact (Option.some.inj hs').symm
                subst this; rfl
              · rename_i hs'; rw [hs] at hs'; cases hs'
            rw [this]; exact h4
          have hsc := SC.sl (shT P n e) len f (by unfold maxLen at hm; omega) (fun i hi j s hs => by obtain ⟨u, _, hg⟩ := hf i (by omega) j s hs; exact hg.2)
          refine one (c := .sl (shT P n e).length len f) hb ⟨Or.inr ⟨b, o, m, rfl, hl, (by unfold maxLen at hm; omega), fun i hi j hj => ⟨id, ?_⟩⟩, hsc⟩
          have hs : (shT P n e)[j]? = some ((shT P n e)[j]'hj) := List.getElem?_eq_getElem hj
          obtain ⟨u, hu, hg⟩ := hf i (by omega) j _ hs
          refine ⟨u, ?_, hg.1⟩
          rw [addr_add, ← Nat.add_assoc] at hu
          exact hu
    · rename_i fs ht
      simp only [Bool.and_eq_true] at hok
      obtain ⟨xs, m, _, _, hlen, hxl, hf⟩ := DataW.trod_struct ht h
      refine ⟨hlen.trans (beqN hok.1), fun j s hs => ?_⟩
      have := okFs_sound (enc := enc) (cs := cs) (fun t cs x h1 h2 => (trod_sh n m t cs x h1 h2).2) fs.toList 0 hok.2 (fun f hf' => by
        obtain ⟨i, hi⟩ := List.getElem?_of_mem hf'
        have hi' : fs[i]? = some f := by simpa using hi
        have hlt : i < fs.size := (Array.getElem?_eq_some_iff.1 hi').1
        exact ⟨_, (hf i f hi').trans (List.getElem?_eq_getElem (by omega))⟩) j s hs
      simpa using this
    · exact absurd hok (by simp)

/-- Arguments of these types. -/
inductive SPs (P : Program) (n : Nat) : List TypeId → List PV → Prop
  | nil : SPs P n [] []
  | one {t : TypeId} {ts : List TypeId} {s : Sh} {c : Cell} {ps : List PV} (ht : isAggT P t = false) (hs : shT P n t = [s]) (hc : SC s c) (h : SPs P n ts ps) : SPs P n (t :: ts) (.one c :: ps)
  | many {t : TypeId} {ts : List TypeId} {f : Nat → Cell} {ps : List PV} (ht : isAggT P t = true) (hf : ∀ j s, (shT P n t)[j]? = some s → SC s (f j)) (h : SPs P n ts ps) : SPs P n (t :: ts) (.many (shT P n t).length f :: ps)

def chkArgs (P : Program) (n : Nat) : List TypeId → Bool
  | [] => true
  | t :: ts => okT P n t && P.readableRec t && Nat.ble (t + 1) P.types.size && chkArgs P n ts

theorem open_arg {n : Nat} {t : TypeId} {v : Value} {d : DataW H} {ps : List MemPlace} {base : Nat} (hok : okT P n t = true) (hval : Value.okWide P w .any base t v) (h : DataW.Trod enc P w 0 (fun _ => true) true t v d ps) :
    (isAggT P t = false ∧ ∃ s c, shT P n t = [s] ∧ SC s c ∧ RP (fun _ => False) w (.one c) v) ∨
    (isAggT P t = true ∧ ∃ f, (∀ j s, (shT P n t)[j]? = some s → SC s (f j)) ∧ RP (fun _ => False) w (.many (shT P n t).length f) v) := by
  obtain ⟨fuel, hf⟩ := h
  obtain ⟨hlen, hg⟩ := trod_sh n fuel t _ _ hok hf
  have aux1 : ∀ s, shT P n t = [s] → v.cells.toList = [v] → ∃ c, SC s c ∧ RP (fun _ => False) w (.one c) v := fun s hs hv => by
    rw [hs, hv] at hg
    obtain ⟨u, c, hu, hgd⟩ := hg 0 s rfl
    simp only [List.getElem?_cons_zero, Option.some.injEq] at hu
    subst hu
    exact ⟨c, hgd.2, hgd.1⟩
  cases n with
  | zero => exact absurd hok (by simp [okT])
  | succ n =>
    unfold okT at hok
    split at hok
    · rename_i ht
      obtain ⟨b, rfl⟩ := okWide_bool ht hval
      have hs : shT P (n + 1) t = [.bool] := by rw [shT, ht]
      obtain ⟨c, h1, h2⟩ := aux1 _ hs rfl
      exact .inl ⟨by unfold isAggT; rw [ht], _, c, hs, h1, h2⟩
    · rename_i k ht
      obtain ⟨b, rfl⟩ := okWide_int ht hval
      have hs : shT P (n + 1) t = [.int k] := by rw [shT, ht]
      obtain ⟨c, h1, h2⟩ := aux1 _ hs rfl
      exact .inl ⟨by unfold isAggT; rw [ht], _, c, hs, h1, h2⟩
    · rename_i ht
      obtain ⟨b, rfl⟩ := okWide_string ht hval
      have hs : shT P (n + 1) t = [.str] := by rw [shT, ht]
      obtain ⟨c, h1, h2⟩ := aux1 _ hs rfl
      exact .inl ⟨by unfold isAggT; rw [ht], _, c, hs, h1, h2⟩
    · rename_i e ht
      obtain ⟨x, y, z, rfl⟩ := okWide_slice ht hval
      have hs : shT P (n + 1) t = [.sl (shT P n e)] := by rw [shT, ht]
      obtain ⟨c, h1, h2⟩ := aux1 _ hs rfl
      exact .inl ⟨by unfold isAggT; rw [ht], _, c, hs, h1, h2⟩
    · rename_i fs ht
      obtain ⟨cs, rfl, hsz⟩ := okWide_struct ht hval
      have hcs : (Value.agg cs).cells.toList = cs.toList := rfl
      rw [hcs] at hlen hg
      classical
      let f : Nat → Cell := fun j => match hs : (shT P (n + 1) t)[j]? with
        | some s => Classical.choose (Classical.choose_spec (hg j s hs))
        | none => .bool false
      have hfj : ∀ j s, (shT P (n + 1) t)[j]? = some s → ∃ u, cs[j]? = some u ∧ Gd w s u (f j) := fun j s hs => by
        have h4 := Classical.choose_spec (Classical.choose_spec (hg j s hs))
        have : f j = Classical.choose (Classical.choose_spec (hg j s hs)) := by
          simp only [f]
          split
          · rename_i s' hs'
            have : s' = s := by rw [hs] at hs'; exact (Option.some.inj hs').symm
            subst this; rfl
          · rename_i hs'; rw [hs] at hs'; cases hs'
        rw [this]
        exact ⟨_, by simpa using h4.1, h4.2⟩
      refine .inr ⟨by unfold isAggT; rw [ht], f, fun j s hs => (hfj j s hs).elim fun u h => h.2.2, cs, rfl, by simpa using hlen, fun j hj => ?_⟩
      obtain ⟨u, hu, hgd⟩ := hfj j _ (List.getElem?_eq_getElem hj)
      exact ⟨u, hu, RC_one hgd.1, hgd.1⟩
    · exact absurd hok (by simp)

theorem open_args {n : Nat} {base : Nat} : ∀ {ts : List TypeId} {vs : List Value} {ds : List (DataW H)} {ps : List MemPlace}, chkArgs P n ts = true → (∀ (j : Nat) t v, ts[j]? = some t → vs[j]? = some v → Value.okWide P w .any base t v) →
    DataW.TrodAll enc P w 0 (fun _ => true) true ts vs ds ps → ∃ qs, SPs P n ts qs ∧ RPs (fun _ => False) w qs vs
  | [], vs, ds, ps, _, _, h => by
    obtain ⟨rfl, rfl, rfl⟩ := trodAll_nil h
    exact ⟨[], .nil, .nil⟩
  | t :: ts, vs, ds, ps, hc, hv, h => by
    obtain ⟨v, vs', d, ds', p, q, rfl, rfl, rfl, hd, hr⟩ := trodAll_cons h
    simp only [chkArgs, Bool.and_eq_true] at hc
    obtain ⟨qs, h1, h2⟩ := open_args (ts := ts) hc.2 (fun j t v ht hv' => hv (j + 1) t v (by simpa using ht) (by simpa using hv')) hr
    rcases open_arg hc.1.1.1 (hv 0 t v rfl rfl) hd with ⟨ha, s, c, hs, hsc, hrp⟩ | ⟨ha, f, hf, hrp⟩
    · exact ⟨_, .one ha hs hsc h1, .cons hrp h2⟩
    · exact ⟨_, .many ha hf h1, .cons hrp h2⟩

theorem trodAll_below {n : Nat} (hl : laidOutB P = true) {W W' : World} (hb : Below W.heap.size W W') : ∀ {ts : List TypeId} {vs : List Value} {ds : List (DataW H)} {ps : List MemPlace}, chkArgs P n ts = true →
    DataW.TrodAll enc P W 0 (fun _ => true) true ts vs ds ps → (∀ x ∈ ps, x.block < W.heap.size) → DataW.TrodAll enc P W' 0 (fun b => decide (b < W.heap.size)) true ts vs ds ps
  | [], vs, ds, ps, _, h, _ => by
    obtain ⟨rfl, rfl, rfl⟩ := trodAll_nil h
    exact rfl
  | t :: ts, vs, ds, ps, hc, h, hlt => by
    obtain ⟨v, vs', d, ds', p, q, rfl, rfl, rfl, hd, hr⟩ := trodAll_cons h
    simp only [chkArgs, Bool.and_eq_true] at hc
    exact ⟨p, q, Below.trod hl hc.1.1.2 (Nat.lt_of_lt_of_le (Nat.lt_succ_self t) (Nat.le_of_ble_eq_true hc.1.2)) hd hb (fun x hx => hlt x (List.mem_append_left _ hx)),
      trodAll_below hl hb hc.2 hr (fun x hx => hlt x (List.mem_append_right _ hx)), rfl⟩

/-- The call that a law's statement speaks of. -/
theorem law_call {f : Nat} {fn : Func} {n : Nat} {tb : TypeId} {s : ChangeSpec} (hl : laidOutB P = true) (hc : chkArgs P n fn.params.toList = true) (hr : fn.resultTypes = #[tb]) (hb : P.underlying tb = some .bool)
    (hv : s.vars = []) (hs : ∀ (ds : List (DataW H)), ds.length = fn.params.toList.length → s.fn H ds = { results := [.lit (.bool true)], args := ds })
    (law : ∀ ps, SPs P n fn.params.toList ps → FnOk P f ps [.one (.im (.bool true))])
    {W : World} {base : Nat} {args : Array Value} {ds gs : List (DataW H)} {before : List MemPlace} (hval : ∀ (j : Nat) t v, fn.params[j]? = some t → args[j]? = some v → Value.okWide P W .any base t v)
    (hW : DataW.Whole enc P fn.params.toList s.vars false W args.toList ds gs before) :
    Calls P f args W fun e W' => ∃ v, e = .returned v ∧ s.post enc P fn false true false false W args v W' := by
  have hW' := hW
  obtain ⟨p, q, hA, hV, rfl, hfz, hnd⟩ := hW
  rw [hv] at hV
  obtain ⟨rfl, rfl⟩ := trodVars_none hV
  obtain ⟨qs, h1, h2⟩ := open_args hc (fun j t v ht hv' => hval j t v (by simpa using ht) (by simpa using hv')) hA
  have hlt : ∀ x ∈ p, x.block < W.heap.size := fun x hx => hW'.lt x (List.mem_append_left _ hx)
  have hdl : ds.length = fn.params.toList.length := by
    clear hval hW' h1 h2 hlt hfz hnd hc hs law
    generalize fn.params.toList = ts at hA
    generalize args.toList = vs at hA
    induction ts generalizing vs ds p with
    | nil => obtain ⟨_, rfl, _⟩ := trodAll_nil hA; rfl
    | cons t ts ih =>
      obtain ⟨v, vs', d, ds', p', q', rfl, rfl, rfl, hd, hr⟩ := trodAll_cons hA
      simp [ih _ _ hr]
  obtain ⟨h2l, h2g⟩ := h2.get
  refine ((law qs h1).calls (fun _ => False) args W (fun _ h => h.elim) (by simpa using h2l) (fun i p hp => by obtain ⟨u, hu, hrp⟩ := h2g i p hp; exact ⟨u, by simpa using hu, hrp⟩)).mono fun e W' ⟨v, he, hbel, hres⟩ => ?_
  refine ⟨v, he, ?_⟩
  obtain ⟨vs, bl, hrv, _, _, hall⟩ := hres
  obtain ⟨u, hu, hrr⟩ := hall 0 _ rfl
  have huv : u = v := by
    have h3 : vs.size = 1 ∧ vs[0]? = some v := hrv
    rw [hu] at h3
    exact Option.some.inj h3.2
  subst huv
  have hvt : u = .bool true := hrr.2
  subst hvt
  have hs' := hs (ds ++ []) (by simpa using hdl)
  refine ⟨ds, [], p ++ [], [], p, [], hW', ?_, ?_, ?_, ?_, fun h => by cases h⟩
  · rw [hs', hr]
    refine trodAll_mk1 ⟨1, ?_⟩
    simp [DataW.trod, Value.cells, hb]
  · rw [hs']
    simpa using trodAll_below hl hbel hc hA hlt
  · rw [hs', hv]
    exact rfl
  · exact hbel.frame _

end
end Lk
