/-
  The abstract machine, part 20: regions are sound, whether their order is open or not.
-/
import Derived.Test.YtbfhhfbblnkdhaaLk19
namespace Lk
open Go Go.RowKit

section
variable {P : Program} {O : Nat → Prop} {W : World} {N : Nat} {Q : Exit → Act → World → Prop}

/-- A region in the text's order. -/
theorem wpOps_sound {ops : Array Oper} : ∀ (aops : List AOper) (i : Nat) (st : St) (a : Act) (w : World) (be : Nm) (K : St → Prop), chkOps P N ops (ops.toList.drop i) aops = true → stepL P aops st K → Rel O W N st a w be →
    (∀ st' a' w' be', K st' → Rel O W N st' a' w' be' → Q .normal a' w') → wpOps P ops Q (List.range' i aops.length) a w
  | [], i, st, a, w, be, K, _, h, hr, hk => hk st a w be h hr
  | ao :: r, i, st, a, w, be, K, hc, h, hr, hk => by
    cases hd : ops.toList.drop i with
    | nil => rw [hd] at hc; exact absurd hc (by simp [chkOps])
    | cons o rest =>
      rw [hd] at hc
      simp only [chkOps, Bool.and_eq_true] at hc
      have ho : ops[i]? = some o := by
        have : (ops.toList.drop i)[0]? = some o := by rw [hd]; rfl
        rw [List.getElem?_drop] at this
        simpa using this
      have hrest : ops.toList.drop (i + 1) = rest := by
        rw [← List.drop_drop, hd]; rfl
      replace h := step_W h
      obtain ⟨δ, he, h⟩ := stepW_split h
      simp only [List.length_cons, List.range'_succ]
      obtain ⟨e1, e2⟩ := EffR_sound (P := P) (next := wpOps P ops Q (List.range' (i + 1) r.length)) (Q := Q) hc.1 hr he (fun a' w' be' hr' => wpOps_sound r (i + 1) _ a' w' be' K (by rw [hrest]; exact hc.2) h hr' hk)
      unfold wpOps
      rw [ho]
      simp only
      by_cases hw : Region.wanted o (yielded ops a.tmps) = true
      · rw [if_pos hw]; exact .inl (e1 hw)
      · rw [if_neg hw]; exact e2 hw

theorem region_sound {id : Nat} {ops : Array Oper} {aops : List AOper} {st : St} {a : Act} {w : World} {be : Nm} {K : St → Prop} (hc : chkOps P N ops ops.toList aops = true) (h : stepL P aops st K) (hr : Rel O W N st a w be)
    (hk : ∀ st' a' w' be', K st' → Rel O W N st' a' w' be' → Q .normal a' w') : (Code.region id ops false).wp P Q a w := by
  refine wp_region ?_
  have hl := (chkOps_get hc).1
  rw [show List.range ops.size = List.range' 0 aops.length by rw [List.range_eq_range', ← hl]; simp]
  exact wpOps_sound aops 0 st a w be K (by simpa using hc) h hr hk

/-! open order -/

structure DrawOk (P : Program) (N : Nat) (ops : Array Oper) (aops : List AOper) (U : List (Nat × Nat)) : Prop where
  each : chkOps P N ops ops.toList aops = true
  back : chkBack ops.toList 0 = true
  all : chkAll U aops (ancs ops.toList []) aops 0 = true

theorem val_pure {o : AOper} {st : St} {δ : Dl} (hv : isVal o.op = true) (h : EffR P o st δ) : sitesOf δ.hs ++ δ.gs = [] := by
  obtain ⟨d, op, gd⟩ := o
  cases op with
  | val p =>
    unfold EffR at h
    simp only at h
    cases gd with
    | none =>
      replace h : (eff (.val p) (d.getD 0) True st).run fun x => x = δ := h
      simp only [eff, M.run_bind] at h
      obtain ⟨v, _, h⟩ := M.split h
      rw [← show Dl.val v = δ from h]; rfl
    | some gw =>
      obtain ⟨g, want⟩ := gw
      simp only at h
      split at h
      · obtain ⟨v, _, h⟩ := M.split (show (pv st.hp st.gc _ st.fr p).run _ from h)
        rw [h]; rfl
      · obtain ⟨v, _, h⟩ := M.split (show (pv st.hp st.gc _ st.fr p).run _ from h)
        rw [h]; rfl
      · exact h.elim
  | _ => exact absurd hv (by simp [isVal])

theorem RunL_len : ∀ (aops : List AOper) (st : St) (D : List Dl), RunL P aops st D → D.length = aops.length
  | [], st, D, h => by rw [show D = [] from h]; rfl
  | o :: r, st, D, h => by
    obtain ⟨δ, D', rfl, _, h2⟩ := h
    simp [RunL_len r _ D' h2]

theorem St.ext' {s t : St} (h1 : s.fr = t.fr) (h2 : s.hp = t.hp) (h3 : s.gc = t.gc) : s = t := by
  cases s; cases t; simp_all

theorem getD_set {l : Array Bool} {i k : Nat} (hi : i < l.size) : (l.setIfInBounds i true).getD k false = (decide (k = i) || l.getD k false) := by
  rw [Array.getD_eq_getD_getElem?, Array.getD_eq_getD_getElem?]
  by_cases h : k = i
  · subst h
    rw [Array.getElem?_setIfInBounds_self]
    simp [hi]
  · rw [Array.getElem?_setIfInBounds_ne (fun e => h e.symm)]
    simp [h]

theorem getD_both' {listed : Array Bool} {i : Nat} (h : listed.getD i true = false) : listed.getD i false = false := by
  rw [Array.getD_eq_getD_getElem?] at h ⊢
  cases hl : listed[i]? with
  | none => rfl
  | some b => rw [hl] at h; exact h
theorem getD_rep (m j : Nat) : (Array.replicate m false).getD j false = false := by
  rw [Array.getD_eq_getD_getElem?, Array.getElem?_replicate]
  split <;> rfl

theorem filter_le' {p q : Nat → Bool} : ∀ (l : List Nat), (∀ k ∈ l, q k = true → p k = true) → (l.filter q).length ≤ (l.filter p).length
  | [], _ => Nat.le_refl _
  | x :: r, h => by
    have ih := filter_le' (p := p) (q := q) r fun k hk => h k (by simp [hk])
    simp only [List.filter_cons]
    cases hq : q x with
    | true => rw [h x (by simp) hq]; simpa using ih
    | false =>
      cases hp : p x with
      | true => simp; omega
      | false => simpa using ih
theorem filter_lt' {p q : Nat → Bool} : ∀ (l : List Nat), (∀ k ∈ l, q k = true → p k = true) → ∀ j ∈ l, p j = true → q j = false → (l.filter q).length < (l.filter p).length
  | [], _, j, hj, _, _ => absurd hj (by simp)
  | x :: r, h, j, hj, h1, h2 => by
    simp only [List.filter_cons]
    rcases List.mem_cons.1 hj with rfl | hj
    · rw [h1, h2]
      have := filter_le' (p := p) (q := q) r fun k hk => h k (by simp [hk])
      simp; omega
    · have ih := filter_lt' (p := p) (q := q) r (fun k hk => h k (by simp [hk])) j hj h1 h2
      cases hq : q x with
      | true => rw [h x (by simp) hq]; simpa using ih
      | false =>
        cases hp : p x with
        | true => simp; omega
        | false => simpa using ih

theorem draw_sound {id : Nat} {ops : Array Oper} {aops : List AOper} {U : List (Nat × Nat)} {st : St} {a : Act} {w : World} {be : Nm} {K : St → Prop} (hm : P.follows .mixedOrders = true) (hc : DrawOk P N ops aops U)
    (h : stepWL P aops st [] fun st' rs => bif okU rs U then K st' else False) (hr : Rel O W N st a w be)
    (hk : ∀ st' a' w' be', K st' → Rel O W N st' a' w' be' → Q .normal a' w') : (Code.region id ops true).wp P Q a w := by
  obtain ⟨D, hrun, h⟩ := stepWL_split aops st [] _ h
  rw [List.nil_append] at h
  have hU : okU (recsOf aops D st) U = true := by
    cases hb : okU (recsOf aops D st) U with
    | true => rfl
    | false => rw [hb] at h; exact h.elim
  rw [hU] at h
  simp only [cond_true] at h
  obtain ⟨hlen, hget⟩ := chkOps_get hc.each
  have hsz : ops.size = aops.length := by simpa using hlen
  have hDl := RunL_len aops st D hrun
  refine wp_region_any hm ?_
  -- the parts of an index
  have parts : ∀ j, j < ops.size → ∃ o ao δ, ops[j]? = some o ∧ aops[j]? = some ao ∧ D[j]? = some δ ∧ chkOp P N ops o ao = true := fun j hj => by
    have h1 : ops[j]? = some ops[j] := Array.getElem?_eq_getElem hj
    have h2 : aops[j]? = some (aops[j]'(by omega)) := List.getElem?_eq_getElem (by omega)
    exact ⟨_, _, _, h1, h2, List.getElem?_eq_getElem (show j < D.length by omega), hget j _ _ (by simp) h2⟩
  -- those that may change places
  have dep : ∀ i j, i < j → j < ops.size → ∀ x y δ ε, aops[i]? = some x → aops[j]? = some y → D[i]? = some δ → D[j]? = some ε →
      ((ancs ops.toList []).getD j 0).testBit i = true ∨ ((∀ d, x.d = some d → d ∉ y.slots ∧ y.d ≠ some d) ∧ (∀ d, y.d = some d → d ∉ x.slots) ∧
        (∀ s, s ∈ sitesOf δ.hs ++ δ.gs → s ∉ y.looks (fl (fun k => decide (k < j)) 0 aops D st).fr ∧ s ∉ sitesOf ε.hs ++ ε.gs) ∧
        (∀ s, s ∈ sitesOf ε.hs ++ ε.gs → s ∉ x.looks (fl (fun k => decide (k < i)) 0 aops D st).fr)) := fun i j hij hj x y δ ε hx hy hδ hε => by
    have h1 := chkAll_get aops 0 hc.all j y hy
    rw [Nat.zero_add] at h1
    have hx' : (aops.take j)[i]? = some x := by rw [List.getElem?_take, if_pos hij]; exact hx
    rcases chkAhead_get _ 0 h1 i x hx' with h2 | ⟨h2, h3⟩
    · rw [Nat.zero_add] at h2; exact .inl h2
    · rw [Nat.zero_add] at h3
      right
      simp only [indS, Bool.and_eq_true] at h2
      refine ⟨fun d hd => ?_, fun d hd => ?_, ?_⟩
      · have := disj_get h2.1 d (by simp [dstL, hd])
        simp only [List.mem_append, not_or] at this
        refine ⟨this.1, fun e => ?_⟩
        rw [dstL, e] at this
        exact this.2 (by simp)
      · exact disj_get h2.2 d (by simp [dstL, hd])
      · rcases h3 with ⟨v1, v2⟩ | h3
        · have p1 := run_at aops 0 st D hrun i x δ hx hδ
          have p2 := run_at aops 0 st D hrun j y ε hy hε
          have q1 := val_pure v1 p1
          have q2 := val_pure v2 p2
          rw [q1, q2]
          exact ⟨fun s hs => absurd hs (by simp), fun s hs => absurd hs (by simp)⟩
        · obtain ⟨rx, ry, hrx, hry, a1, a2, a3⟩ := okU_get hU i j h3
          have e1 := rec_at aops 0 st D i x δ hx hδ
          have e2 := rec_at aops 0 st D j y ε hy hε
          rw [hrx] at e1
          rw [hry] at e2
          obtain rfl := Option.some.inj e1
          obtain rfl := Option.some.inj e2
          simp only [Nat.zero_add] at a1 a2 a3
          exact ⟨fun s hs => ⟨apart_get a1 s hs, apart_get a3 s hs⟩, fun s hs => apart_get a2 s hs⟩
  -- from any set that is closed
  have main : ∀ (fuel : Nat) (listed : Array Bool) (a : Act) (w : World) (be : Nm), listed.size = ops.size → ((List.range ops.size).filter fun k => !listed.getD k false).length ≤ fuel →
      (∀ (k : Nat) (o : Oper), ops[k]? = some o → listed.getD k false = true → ∀ e ∈ o.after, Region.binds .any e = true → listed.getD e.on false = true) →
      Rel O W N (fl (fun k => listed.getD k false) 0 aops D st) a w be → wpAny P .any ops Q fuel listed a w := by
    intro fuel
    induction fuel with
    | zero => ?_
    | succ fuel ih => ?_
    all_goals
      intro listed a w be hls hcount hclosed hrel
      have hdone : Region.ready .any ops listed = [] → Q .normal a w := fun hre => by
        have hallE : ∀ n j, j < n → j < ops.size → listed.getD j false = true := by
          intro n
          induction n with
          | zero => intro j hj; omega
          | succ n ihn =>
            intro j hjn hj
            cases hE : listed.getD j false with
            | true => rfl
            | false =>
              exfalso
              obtain ⟨o, ao, δ, ho, _⟩ := parts j hj
              have hmem : j ∈ Region.ready .any ops listed := by
                unfold Region.ready
                refine List.mem_filter.2 ⟨by simpa using hj, ?_⟩
                simp only [Bool.and_eq_true, Bool.not_eq_true']
                refine ⟨?_, ?_⟩
                · rw [Array.getD_eq_getD_getElem?] at hE ⊢
                  rw [Array.getElem?_eq_getElem (by omega)] at hE ⊢
                  simpa using hE
                · rw [ho]
                  simp only [Option.map_some, Option.getD_some, Array.all_eq_true_iff_forall_mem, Bool.or_eq_true, Bool.not_eq_true']
                  intro e he
                  cases hb : Region.binds .any e with
                  | false => exact .inl rfl
                  | true =>
                    have hlt := chkBack_get ops.toList 0 hc.back j o (by simpa using ho) e he hb
                    exact .inr (ihn e.on (by omega) (by omega))
              rw [hre] at hmem
              exact absurd hmem (by simp)
        have heq : fl (fun k => listed.getD k false) 0 aops D st = fl (fun _ => true) 0 aops D st := by
          refine St.ext' (funext fun x => ?_) (funext fun s => ?_) (funext fun s => ?_)
          · exact fl_fr aops 0 D st st (fun j o ho _ => by
              have hj : j < aops.length := (List.getElem?_eq_some_iff.1 ho).1
              rw [Nat.zero_add]; exact hallE (j + 1) j (by omega) (by omega)) rfl
          · exact (fl_at aops 0 D st st (fun j δ hδ _ => by
              have hj : j < D.length := (List.getElem?_eq_some_iff.1 hδ).1
              rw [Nat.zero_add]; exact hallE (j + 1) j (by omega) (by omega)) ⟨rfl, rfl⟩).1
          · exact (fl_at aops 0 D st st (fun j δ hδ _ => by
              have hj : j < D.length := (List.getElem?_eq_some_iff.1 hδ).1
              rw [Nat.zero_add]; exact hallE (j + 1) j (by omega) (by omega)) ⟨rfl, rfl⟩).2
        rw [heq] at hrel
        exact hk _ a w be h hrel
    · have hnil : Region.ready .any ops listed = [] := by
        rw [List.eq_nil_iff_forall_not_mem]
        intro j hj
        unfold Region.ready at hj
        obtain ⟨h1, h2⟩ := List.mem_filter.1 hj
        simp only [Bool.and_eq_true, Bool.not_eq_true'] at h2
        have : j ∈ (List.range ops.size).filter fun k => !listed.getD k false := List.mem_filter.2 ⟨h1, by rw [getD_both' h2.1]; rfl⟩
        have hl0 := Nat.le_zero.1 hcount
        rw [List.eq_nil_of_length_eq_zero hl0] at this
        exact absurd this (by simp)
      exact ⟨hnil, hdone hnil⟩
    · refine ⟨hdone, fun j hj => ?_⟩
      unfold Region.ready at hj
      obtain ⟨hj1, hj2⟩ := List.mem_filter.1 hj
      have hjs : j < ops.size := by simpa using hj1
      obtain ⟨o, ao, δ, ho, hao, hδ, hchk⟩ := parts j hjs
      simp only [Bool.and_eq_true, Bool.not_eq_true', ho, Option.map_some, Option.getD_some, Array.all_eq_true_iff_forall_mem, Bool.or_eq_true] at hj2
      obtain ⟨hjE, hje⟩ := hj2
      have hjE := getD_both' hjE
      have hdir : ∀ e ∈ o.after, Region.binds .any e = true → listed.getD e.on false = true := fun e he hb => by
        rcases hje e he with h' | h'
        · rw [hb] at h'; exact absurd h' (by simp)
        · exact h'
      -- the ancestors
      obtain ⟨g1, g2, g3⟩ := ancs_spec (E := fun k => listed.getD k false = true) ops.toList [] (fun k o' ho' hE => by
        rw [List.length_nil, Nat.zero_add] at hE
        exact hclosed k o' (by simpa using ho') hE) (fun k hk => absurd hk (by simp))
      have hanc : ∀ k, ((ancs ops.toList []).getD j 0).testBit k = true → listed.getD k false = true := fun k hb => by
        have := g3 j o (by simpa using ho) k (by simpa using hb) hdir
        exact this
      have hanc2 : ∀ k, k < ops.size → ((ancs ops.toList []).getD k 0).testBit j = true → listed.getD k false = false := fun k hks hb => by
        cases hE : listed.getD k false with
        | false => rfl
        | true =>
          have : listed.getD j false = true := g2 k (by rw [g1]; simpa using hks) j hb hE
          rw [this] at hjE; exact absurd hjE (by simp)
      -- who touches what j looks at
      have tS : ∀ x, x ∈ ao.slots → ∀ k ak, aops[k]? = some ak → ak.d = some x → decide (k < j) = listed.getD k false := fun x hx k ak hak hd => by
        have hks : k < ops.size := by have := (List.getElem?_eq_some_iff.1 hak).1; omega
        obtain ⟨_, _, δk, _, hak', hδk, _⟩ := parts k hks
        rcases Nat.lt_trichotomy k j with hlt | heq | hgt
        · rw [decide_eq_true hlt]
          rcases dep k j hlt hjs ak ao δk δ hak hao hδk hδ with h1 | h1
          · exact (hanc k h1).symm
          · exact absurd hx (h1.1 x hd).1
        · subst heq; rw [hjE]; simp
        · rw [decide_eq_false (by omega)]
          rcases dep j k hgt hks ao ak δ δk hao hak hδ hδk with h1 | h1
          · exact (hanc2 k hks h1).symm
          · exact absurd hx (h1.2.1 x hd)
      have tH : ∀ s, (s ∈ ao.looks (fl (fun k => decide (k < j)) 0 aops D st).fr ∨ s ∈ sitesOf δ.hs ++ δ.gs) → ∀ k δk, D[k]? = some δk → s ∈ sitesOf δk.hs ++ δk.gs → k ≠ j → decide (k < j) = listed.getD k false := fun s hs k δk hδk hsk hkj => by
        have hks : k < ops.size := by have := (List.getElem?_eq_some_iff.1 hδk).1; omega
        obtain ⟨_, ak, _, _, hak, _, _⟩ := parts k hks
        rcases Nat.lt_trichotomy k j with hlt | heq | hgt
        · rw [decide_eq_true hlt]
          rcases dep k j hlt hjs ak ao δk δ hak hao hδk hδ with h1 | h1
          · exact (hanc k h1).symm
          · have := h1.2.2.1 s hsk
            rcases hs with hs | hs
            · exact absurd hs this.1
            · exact absurd hs this.2
        · exact absurd heq hkj
        · rw [decide_eq_false (by omega)]
          rcases dep j k hgt hks ao ak δ δk hao hak hδ hδk with h1 | h1
          · exact (hanc2 k hks h1).symm
          · rcases hs with hs | hs
            · exact absurd hs (h1.2.2.2 s hsk)
            · exact absurd hsk (h1.2.2.1 s hs).2
      have hself : ∀ k, k = j → decide (k < j) = listed.getD k false := fun k e => by subst e; rw [hjE]; simp
      have atS : ∀ s, (s ∈ ao.looks (fl (fun k => decide (k < j)) 0 aops D st).fr ∨ s ∈ sitesOf δ.hs ++ δ.gs) →
          (fl (fun k => decide (k < j)) 0 aops D st).hp s = (fl (fun k => listed.getD k false) 0 aops D st).hp s ∧ (fl (fun k => decide (k < j)) 0 aops D st).gc s = (fl (fun k => listed.getD k false) 0 aops D st).gc s := fun s hs =>
        fl_at aops 0 D st st (fun k δk hδk hsk => by
          simp only [Nat.zero_add]
          by_cases hkj : k = j
          · exact hself k hkj
          · exact tH s hs k δk hδk hsk hkj) ⟨rfl, rfl⟩
      have hEff : EffR P ao (fl (fun k => listed.getD k false) 0 aops D st) δ := by
        have h0 := run_at aops 0 st D hrun j ao δ hao hδ
        simp only [Nat.zero_add] at h0
        refine EffR_loc h0 ⟨fun x hx => ?_, fun s hs => atS s (.inl hs), fun s hs => (atS s (.inr hs)).2⟩
        exact fl_fr aops 0 D st st (fun k ak hak hd => by simp only [Nat.zero_add]; exact tS x hx k ak hak hd) rfl
      -- the state behind
      have hnext : (fl (fun k => listed.getD k false) 0 aops D st).chg ao.d δ = fl (fun k => (listed.setIfInBounds j true).getD k false) 0 aops D st := by
        have hle := fl_le aops 0 st D j ao δ hao hδ
        simp only [Nat.zero_add] at hle
        have hset : ∀ k, (listed.setIfInBounds j true).getD k false = (decide (k = j) || listed.getD k false) := fun k => getD_set (by omega)
        refine St.ext' (funext fun x => ?_) (funext fun s => ?_) (funext fun s => ?_)
        · rw [chg_fr]
          by_cases hd : ao.d = some x
          · rw [if_pos hd]
            have e1 : (fl (fun k => decide (k < j + 1)) 0 aops D st).fr x = δ.v := by rw [hle, chg_fr, if_pos hd]
            rw [← e1]
            refine fl_fr aops 0 D st st (fun k ak hak hdk => ?_) rfl
            simp only [Nat.zero_add, hset]
            have hks : k < ops.size := by have := (List.getElem?_eq_some_iff.1 hak).1; omega
            obtain ⟨_, _, δk, _, _, hδk, _⟩ := parts k hks
            rcases Nat.lt_trichotomy k j with hlt | heq | hgt
            · rcases dep k j hlt hjs ak ao δk δ hak hao hδk hδ with h1 | h1
              · rw [hanc k h1]; simp; omega
              · exact absurd hd (h1.1 x hdk).2
            · subst heq; simp
            · rcases dep j k hgt hks ao ak δ δk hao hak hδ hδk with h1 | h1
              · rw [hanc2 k hks h1]; simp; omega
              · exact absurd hdk (h1.1 x hd).2
          · rw [if_neg hd]
            refine fl_fr aops 0 D st st (fun k ak hak hdk => ?_) rfl
            simp only [Nat.zero_add, hset]
            have hkj : k ≠ j := fun e => by subst e; rw [hao] at hak; rw [Option.some.inj hak] at hd; exact hd hdk
            simp [hkj]
        all_goals
          have key : ((fl (fun k => listed.getD k false) 0 aops D st).chg ao.d δ).hp s = (fl (fun k => (listed.setIfInBounds j true).getD k false) 0 aops D st).hp s ∧
              ((fl (fun k => listed.getD k false) 0 aops D st).chg ao.d δ).gc s = (fl (fun k => (listed.setIfInBounds j true).getD k false) 0 aops D st).gc s := by
            by_cases hs : s ∈ sitesOf δ.hs ++ δ.gs
            · have e0 := chg_at_congr (d := ao.d) (δ := δ) (atS s (.inr hs))
              rw [← hle] at e0
              have e1 : (fl (fun k => decide (k < j + 1)) 0 aops D st).hp s = (fl (fun k => (listed.setIfInBounds j true).getD k false) 0 aops D st).hp s ∧
                  (fl (fun k => decide (k < j + 1)) 0 aops D st).gc s = (fl (fun k => (listed.setIfInBounds j true).getD k false) 0 aops D st).gc s :=
                fl_at aops 0 D st st (fun k δk hδk hsk => by
                  simp only [Nat.zero_add, hset]
                  by_cases hkj : k = j
                  · subst hkj; simp
                  · rw [← tH s (.inr hs) k δk hδk hsk hkj]
                    simp [hkj]; omega) ⟨rfl, rfl⟩
              exact ⟨e0.1.symm.trans e1.1, e0.2.symm.trans e1.2⟩
            · have e0 := chg_at_not (st := fl (fun k => listed.getD k false) 0 aops D st) (d := ao.d) hs
              have e1 := fl_at (sel := fun k => listed.getD k false) (sel' := fun k => (listed.setIfInBounds j true).getD k false) (s := s) aops 0 D st st (fun k δk hδk hsk => by
                simp only [Nat.zero_add, hset]
                have hkj : k ≠ j := fun e => by subst e; rw [hδ] at hδk; rw [Option.some.inj hδk] at hs; exact hs hsk
                simp [hkj]) ⟨rfl, rfl⟩
              exact ⟨e0.1.trans e1.1, e0.2.trans e1.2⟩
        · exact key.1
        · exact key.2
      obtain ⟨e1, e2⟩ := EffR_sound (P := P) (next := wpAny P .any ops Q fuel (listed.setIfInBounds j true)) (Q := Q) hchk hrel hEff (fun a' w' be' hr' => by
        rw [hnext] at hr'
        refine ih (listed.setIfInBounds j true) a' w' be' (by simpa using hls) ?_ (fun k o' ho' hE e he hb => ?_) hr'
        · have hsub : ((List.range ops.size).filter fun k => !(listed.setIfInBounds j true).getD k false).length < ((List.range ops.size).filter fun k => !listed.getD k false).length := by
            refine filter_lt' _ (fun k _ hq => ?_) j hj1 (by rw [hjE]; rfl) (by rw [getD_set (by omega)]; simp)
            rw [getD_set (by omega)] at hq
            simp only [Bool.not_eq_true', Bool.or_eq_false_iff] at hq
            rw [hq.2]; rfl
          omega
        · rw [getD_set (by omega)] at hE ⊢
          simp only [Bool.or_eq_true, decide_eq_true_eq] at hE ⊢
          rcases hE with rfl | hE
          · rw [ho] at ho'
            rw [Option.some.inj ho'] at hdir
            exact .inr (hdir e he hb)
          · exact .inr (hclosed k o' ho' hE e he hb))
      unfold wpOp
      rw [ho]
      simp only
      by_cases hw : Region.wanted o (yielded ops a.tmps) = true
      · rw [if_pos hw]; exact .inl (e1 hw)
      · rw [if_neg hw]; exact e2 hw
  refine main ops.size _ a _ be (by simp) ?_ (fun k o ho hE => ?_) ?_
  · exact Nat.le_trans (List.length_filter_le _ _) (by simp)
  · rw [getD_rep] at hE; exact absurd hE (by simp)
  · rw [fl_none _ _ _ _ (fun k _ => getD_rep _ _)]
    obtain ⟨fr, hp, gc⟩ := st
    exact hr.grow ⟨rfl, rfl, rfl, Nat.le_refl _, fun _ _ => rfl⟩

end
end Lk
