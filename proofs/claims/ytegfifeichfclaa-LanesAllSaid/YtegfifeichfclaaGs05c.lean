/-
  Gs05c: what these chapters need.
-/
import Derived.Test.YtegfifeichfclaaGs05b
set_option linter.unusedSimpArgs false
set_option linter.unusedVariables false
namespace Lk.S05
open Go Lk Lk.C
def TT (l : Ls) (K : Int) (i : Nat) : Int := if i < pos l ∨ (i = pos l ∧ l.given = true) then K + 1 else K
structure FI (w : List Int) (S : List Int) (m : Nat) (K : Int) (l : Ls) : Prop where
  r : right l
  n : l.list.length = w.length
  sn : S.length = w.length
  ww : ∀ i, i < w.length → (l.list.getD i default).weight = w.getD i default
  c : ∀ i, i < w.length → 150 ≤ (l.list.getD i default).costs.length + m
  g : l.given = true → (cur l).deficit ≤ 4 * (cur l).weight + 7
  b : ∀ i, i < w.length → 0 ≤ S.getD i default ∧ S.getD i default ≤ 8 * m
  e : ∀ i, i < w.length → S.getD i default + (l.list.getD i default).deficit = 4 * w.getD i default * TT l K i
variable {w S : List Int} {m : Nat} {K : Int} {l : Ls}
theorem FI.ne (h : FI w S m K l) (hm : m ≤ 148) : 2 ≤ (cur l).costs.length := by
  have := h.c (pos l) (by rw [← h.n]; exact h.r.pos.1)
  unfold cur; omega
theorem FI.waits (h : FI w S m K l) (hm : m ≤ 148) : waits l := by
  rw [← waits_fst]
  have hn := h.ne hm
  exact fstN_lt_iff.2 ⟨pos l, h.r.pos.1, decide_eq_true (by unfold cur at hn; omega)⟩
theorem FI.advS (h : FI w S m K l) (hm : m ≤ 148) (hg : gv l < hd0 l) : ∃ K', FI w S m K' (adv l (gv l)) := by
  have hp := h.r.pos
  have hgb := gv_bd h.r
  have hne : (cur l).costs ≠ [] := fun x => by have := h.ne hm; rw [x] at this; simp at this
  have hh := hd_bd h.r hne
  have hr := adv_right (d := gv l) h.r (by omega) (by omega)
  have hpa := adv_pos (d := gv l) h.r
  have hpn : pos l < w.length := by rw [← h.n]; exact hp.1
  have ee := h.e (pos l) hpn
  have ew := h.ww (pos l) hpn
  have key : ∀ K' : Int, (∀ i, i < w.length → i ≠ pos l → TT (S05.adv l (gv l)) K' i = TT l K i) → TT (S05.adv l (gv l)) K' (pos l) = K + 1 → FI w S m K' (S05.adv l (gv l)) := fun K' h1 h2 => by
    refine ⟨hr, by rw [adv_len]; exact h.n, h.sn, fun i hi => ?_, fun i hi => ?_, fun x => absurd x (by show ¬ (false = true); decide), h.b, fun i hi => ?_⟩
    · rw [adv_at (by rw [h.n]; exact hi)]
      by_cases e : i = pos l
      · rw [if_pos e, e]; exact ew
      · rw [if_neg e]; exact h.ww i hi
    · rw [adv_at (by rw [h.n]; exact hi)]
      by_cases e : i = pos l
      · rw [if_pos e]; have := h.c i hi; rw [e] at this; exact this
      · rw [if_neg e]; exact h.c i hi
    · rw [adv_at (by rw [h.n]; exact hi)]
      by_cases e : i = pos l
      · rw [if_pos e, e, h2]
        show S.getD (pos l) default + gv l = _
        unfold gv
        cases hgv : l.given with
        | true =>
          rw [if_pos rfl]
          rw [show TT l K (pos l) = K + 1 from if_pos (.inr ⟨rfl, hgv⟩)] at ee
          exact ee
        | false =>
          rw [if_neg (by decide)]
          rw [show TT l K (pos l) = K from if_neg (fun x => by rcases x with x | x <;> first | omega | (rw [hgv] at x; exact absurd x.2 (by decide)))] at ee
          rw [Int.mul_add, Int.mul_one, ← ee]
          unfold cur; rw [ew]; omega
      · rw [if_neg e, h1 i hi e]; exact h.e i hi
  have hgf : ¬ (S05.adv l (gv l)).given = true := by show ¬ (false = true); decide
  rw [h.n] at hpa
  rcases Nat.lt_or_ge (pos l + 1) w.length with hc | hc
  · rw [Nat.mod_eq_of_lt hc] at hpa
    refine ⟨K, key K (fun i hi e => ?_) (if_pos (.inl (by rw [hpa]; omega)))⟩
    unfold TT
    rw [hpa]
    by_cases e2 : i < pos l
    · rw [if_pos (.inl (by omega)), if_pos (.inl e2)]
    · rw [if_neg (fun x => by rcases x with x | x <;> first | omega | exact hgf x.2), if_neg (fun x => by rcases x with x | x <;> omega)]
  · have : pos l + 1 = w.length := by omega
    rw [this, Nat.mod_self] at hpa
    have h0 : ∀ i, TT (S05.adv l (gv l)) (K + 1) i = K + 1 := fun i => if_neg (fun x => by rcases x with x | x <;> first | omega | exact hgf x.2)
    refine ⟨K + 1, key (K + 1) (fun i hi e => ?_) (h0 _)⟩
    rw [h0]
    exact (if_pos (.inl (by omega))).symm
theorem FI.srvS (h : FI w S m K l) (hm : m ≤ 148) (hg : ¬ gv l < hd0 l) : FI w (S.set (pos l) (S.getD (pos l) default + hd0 l)) (m + 1) K (srv l) := by
  have hp := h.r.pos
  have hgb := gv_bd h.r
  have hne2 := h.ne hm
  have hne : (cur l).costs ≠ [] := fun x => by rw [x] at hne2; simp at hne2
  have hh := hd_bd h.r hne
  have hr := srv_right h.r hne hg
  have hpn : pos l < w.length := by rw [← h.n]; exact hp.1
  have ee := h.e (pos l) hpn
  have ew := h.ww (pos l) hpn
  have hdr : ¬ (cur l).costs.drop 1 = [] := fun x => by
    have : ((cur l).costs.drop 1).length = 0 := by rw [x]; rfl
    rw [List.length_drop] at this; omega
  have hps : pos (srv l) = pos l := rfl
  have hcur : cur (S05.srv l) = ⟨(cur l).weight, gv l - hd0 l, (cur l).costs.drop 1⟩ := by
    show (S05.srv l).list.getD (pos l) default = _
    rw [srv_at hp.1, if_pos rfl, if_neg hdr]
  have hT : TT (S05.srv l) K (pos l) = K + 1 := if_pos (.inr ⟨rfl, rfl⟩)
  have hTo : ∀ i, i ≠ pos l → TT (S05.srv l) K i = TT l K i := fun i e => by
    unfold TT; rw [hps]
    by_cases e2 : i < pos l
    · rw [if_pos (.inl e2), if_pos (.inl e2)]
    · rw [if_neg (fun x => by rcases x with x | x <;> omega), if_neg (fun x => by rcases x with x | x <;> omega)]
  have hgl : gv l = (if l.given = true then (cur l).deficit else (cur l).deficit + (cur l).weight * 4) := rfl
  have hSat : ∀ i, i < w.length → (S.set (pos l) (S.getD (pos l) default + hd0 l)).getD i default = if i = pos l then S.getD (pos l) default + hd0 l else S.getD i default := fun i hi => setL_getD (by rw [h.sn]; exact hi)
  have hcl := h.r.cur
  refine ⟨hr, by rw [srv_len]; exact h.n, by rw [List.length_set]; exact h.sn, fun i hi => ?_, fun i hi => ?_, fun _ => ?_, fun i hi => ?_, fun i hi => ?_⟩
  · rw [srv_at (by rw [h.n]; exact hi)]
    by_cases e : i = pos l
    · rw [if_pos e, e]; exact ew
    · rw [if_neg e]; exact h.ww i hi
  · rw [srv_at (by rw [h.n]; exact hi)]
    have hc := h.c i hi
    by_cases e : i = pos l
    · rw [if_pos e]; rw [e] at hc
      show 150 ≤ ((cur l).costs.drop 1).length + (m + 1)
      rw [List.length_drop]; unfold cur at *; omega
    · rw [if_neg e]; omega
  · rw [hcur]
    show gv l - hd0 l ≤ 4 * (cur l).weight + 7
    rw [hgl]
    cases hgv : l.given with
    | true => have := h.g hgv; rw [if_pos rfl]; omega
    | false =>
      rw [if_neg (by decide)]
      rw [show mst l (pos l) = 7 from if_neg fun x => by rw [hgv] at x; exact absurd x.2 (by decide)] at hcl
      have := hcl.2.1.2; omega
  · rw [hSat i hi]
    have := h.b i hi
    by_cases e : i = pos l
    · rw [if_pos e]; rw [e] at this; omega
    · rw [if_neg e]; omega
  · rw [hSat i hi, srv_at (by rw [h.n]; exact hi)]
    by_cases e : i = pos l
    · rw [if_pos e, if_pos e, if_neg hdr, e, hT]
      show S.getD (pos l) default + hd0 l + (gv l - hd0 l) = _
      rw [hgl]
      cases hgv : l.given with
      | true =>
        rw [if_pos rfl]
        rw [show TT l K (pos l) = K + 1 from if_pos (.inr ⟨rfl, hgv⟩)] at ee
        rw [← ee]; unfold cur; omega
      | false =>
        rw [if_neg (by decide)]
        rw [show TT l K (pos l) = K from if_neg (fun x => by rcases x with x | x <;> first | omega | (rw [hgv] at x; exact absurd x.2 (by decide)))] at ee
        rw [Int.mul_add, Int.mul_one, ← ee]
        unfold cur; rw [ew]; omega
    · rw [if_neg e, if_neg e, hTo i e]; exact h.e i hi
/-- One more is served. -/
structure FStep (w S : List Int) (m : Nat) (l' : Ls) (c : Int) : Prop where
  i : ∃ K, FI w (S.set (pos l') (S.getD (pos l') default + c)) (m + 1) K l'
  g : l'.given = true
  c : 1 ≤ c ∧ c ≤ 8
theorem FI.next (h : ∃ K, FI w S m K l) (hm : m ≤ 148) : nextOk l ∧ right (nextL l) ∧ FStep w S m (nextL l) (nextC l) ∧ nextA l = ((pos (nextL l) : Nat) : Int) ∧ pos (nextL l) < w.length := by
  obtain ⟨K0, h0⟩ := h
  have hok : nextOk l := ⟨h0.r, h0.waits hm⟩
  have := nx_ind (fun l => ∃ K, FI w S m K l) (fun l' c => FStep w S m l' c) (fun l k hr hw ⟨K, hJ⟩ ht => by
    unfold turn at ht
    have h2 := hJ.ne hm
    split at ht
    · rename_i x; rw [x] at h2; simp at h2
    · split at ht
      · rename_i hd
        obtain rfl : adv l (gv l) = k := congrArg Prod.fst ht
        exact hJ.advS hm hd
      · cases congrArg Prod.snd ht) (fun l hr ⟨K, hJ⟩ hn hd => ⟨⟨K, hJ.srvS hm hd⟩, rfl, hd_bd hr hn⟩) h0.r hok.2 ⟨K0, h0⟩
  have e1 : nextL l = (nx l).1 := if_pos hok
  have e2 : nextC l = (nx l).2 := if_pos hok
  have e3 : nextA l = (nx l).1.at_ := if_pos hok
  rw [e1, e2, e3]
  obtain ⟨K, hK⟩ := this.2.i
  exact ⟨hok, this.1, this.2, this.1.pos.2.symm, by have := hK.n; rw [← this]; exact hK.r.pos.1⟩
theorem FI.start {costs : List (List UInt8)} (hw : newOk w) : FI w (List.replicate w.length 0) 0 0 (fl w costs w.length 0) := by
  have hz : ∀ i, i < w.length → (List.replicate w.length (0 : Int)).getD i default = 0 := fun i hi => by rw [getD_eq (by simpa using hi)]; exact List.getElem_replicate ..
  refine ⟨fl_right hw (by omega), fl_len, by simp, fun i hi => by rw [fl_at hi]; rfl, fun i hi => ?_, fun x => absurd x (by show ¬ (false = true); decide), fun i hi => by rw [hz i hi]; exact ⟨Int.le_refl _, by omega⟩, fun i hi => ?_⟩
  · rw [fl_at hi]; unfold flL; simp [if_pos hi]
  · rw [fl_at hi, hz i hi]
    have : TT (fl w costs w.length 0) 0 i = 0 := if_neg (fun x => by
      have hp : pos (fl w costs w.length 0) = 0 := rfl
      rcases x with x | x
      · omega
      · exact absurd x.2 (by show ¬ (false = true); decide))
    rw [this, Int.mul_zero]; rfl
end Lk.S05
namespace Lk.S05
open Go Lk Lk.C
/-- What was served since. -/
structure Since (w S0 S D : List Int) (m : Nat) : Prop where
  n : D.length = w.length
  e : ∀ i, i < w.length → D.getD i default + S0.getD i default = S.getD i default
  b : ∀ i, i < w.length → 0 ≤ D.getD i default ∧ D.getD i default ≤ 8 * m
theorem Since.step {w S0 S D : List Int} {m p : Nat} {c : Int} (h : Since w S0 S D m) (hs : S.length = w.length) (hc : 1 ≤ c ∧ c ≤ 8) : Since w S0 (S.set p (S.getD p default + c)) (D.set p (D.getD p default + c)) (m + 1) := by
  have hs1 : ∀ i, i < w.length → (S.set p (S.getD p default + c)).getD i default = if i = p then S.getD p default + c else S.getD i default := fun i hi => setL_getD (by rw [hs]; exact hi)
  have hs2 : ∀ i, i < w.length → (D.set p (D.getD p default + c)).getD i default = if i = p then D.getD p default + c else D.getD i default := fun i hi => setL_getD (by rw [h.n]; exact hi)
  refine ⟨by rw [List.length_set]; exact h.n, fun i hi => ?_, fun i hi => ?_⟩
  · rw [hs1 i hi, hs2 i hi]
    have := h.e i hi
    by_cases e : i = p
    · rw [if_pos e, if_pos e]; subst e; omega
    · rw [if_neg e, if_neg e]; exact this
  · rw [hs2 i hi]
    have := h.b i hi
    by_cases e : i = p
    · rw [if_pos e]; rw [e] at this; omega
    · rw [if_neg e]; omega
section
variable {P : Program} {F : Nat → Nat}
end
end Lk.S05
namespace Lk.S05
open Go Lk Lk.C
/-- Only one lane holds work. -/
structure AL (n k : Nat) (cs : List Int) (l : Ls) : Prop where
  r : right l
  nn : l.list.length = n
  kk : k < n
  cc : ∀ i, i < n → (l.list.getD i default).costs = if i = k then cs else []
variable {n k : Nat} {cs : List Int} {l : Ls}
theorem AL.waits (h : AL n k cs l) : waits l ↔ cs ≠ [] := by
  rw [← waits_fst, fstN_lt_iff]
  constructor
  · rintro ⟨i, hi, hb⟩ rfl
    have hb := of_decide_eq_true hb
    rw [h.cc i (by rw [← h.nn]; exact hi)] at hb
    split at hb <;> simp at hb
  · intro hc
    refine ⟨k, by rw [h.nn]; exact h.kk, decide_eq_true ?_⟩
    rw [h.cc k h.kk, if_pos rfl]
    exact List.length_pos_iff.2 hc
theorem AL.next (h : AL n k cs l) (hc : cs ≠ []) : nextOk l ∧ AL n k (cs.drop 1) (nextL l) ∧ nextA l = (k : Int) ∧ nextC l = cs.getD 0 default := by
  have hok : nextOk l := ⟨h.r, h.waits.2 hc⟩
  have := nx_ind (fun l => AL n k cs l) (fun l' c => AL n k (cs.drop 1) l' ∧ l'.at_ = (k : Int) ∧ c = cs.getD 0 default) (fun l m hr hw hJ ht => by
    have hm := (turn_none hr hw ht).1
    have ha : ∃ d, m = adv l d := by
      unfold turn at ht
      split at ht
      · exact ⟨_, (congrArg Prod.fst ht).symm⟩
      · split at ht
        · exact ⟨_, (congrArg Prod.fst ht).symm⟩
        · cases congrArg Prod.snd ht
    obtain ⟨d, rfl⟩ := ha
    refine ⟨hm, by rw [adv_len]; exact hJ.nn, hJ.kk, fun i hi => ?_⟩
    rw [adv_at (by rw [hJ.nn]; exact hi)]
    by_cases e : i = pos l
    · rw [if_pos e, ← hJ.cc i hi, e]; rfl
    · rw [if_neg e]; exact hJ.cc i hi) (fun l hr hJ hn hd => by
    have hp := hr.pos
    have hpn : pos l < n := by rw [← hJ.nn]; exact hp.1
    have hcp := hJ.cc (pos l) hpn
    have hk : pos l = k := Decidable.byContradiction fun x => hn (by show (l.list.getD (pos l) default).costs = []; rw [hcp, if_neg x])
    rw [if_pos hk] at hcp
    have hcu : (cur l).costs = cs := hcp
    refine ⟨⟨srv_right hr hn hd, by rw [srv_len]; exact hJ.nn, hJ.kk, fun i hi => ?_⟩, by rw [← hk]; exact hp.2.symm, by unfold hd0; rw [hcu]⟩
    rw [srv_at (by rw [hJ.nn]; exact hi), hcu]
    by_cases e : i = pos l
    · rw [if_pos e]; show cs.drop 1 = _; rw [if_pos (by omega)]
    · rw [if_neg e, if_neg (by omega), hJ.cc i hi, if_neg (by omega)]) h.r hok.2 h
  have e1 : nextL l = (nx l).1 := if_pos hok
  have e2 : nextC l = (nx l).2 := if_pos hok
  have e3 : nextA l = (nx l).1.at_ := if_pos hok
  rw [e1, e2, e3]
  exact ⟨hok, this.2.1, this.2.2.1, this.2.2.2⟩
theorem AL.push {c : Int} (h : AL n k cs l) (hc : 1 ≤ c ∧ c ≤ 8) (hl : cs.length < 200) : pushE l k c = 0 ∧ AL n k (cs ++ [c]) (pushL l k c) := by
  have hp : pushOk l k c := ⟨h.r, ⟨by omega, by rw [h.nn]; have := h.kk; omega⟩, hc.1, hc.2⟩
  have hck := h.cc k h.kk
  rw [if_pos rfl] at hck
  have he : pushE l k c = 0 := by
    unfold pushE; rw [if_pos hp, Int.toNat_natCast, hck, if_neg (by omega)]
  refine ⟨he, ?_⟩
  have e : pushL l k c = pushX l k c := by unfold pushL; rw [if_pos he, Int.toNat_natCast]
  rw [e]
  have hlen : (pushX l k c).list.length = l.list.length := List.length_set ..
  have hat : ∀ i, i < n → (pushX l k c).list.getD i default = if i = k then ⟨(l.list.getD k default).weight, (l.list.getD k default).deficit, (l.list.getD k default).costs ++ [c]⟩ else l.list.getD i default := fun i hi => setL_getD (by rw [h.nn]; exact hi)
  refine ⟨⟨by rw [hlen]; exact h.r.1, by rw [hlen]; exact h.r.2.1, fun i hi => ?_⟩, by rw [hlen]; exact h.nn, h.kk, fun i hi => ?_⟩
  · rw [hlen] at hi
    have hr := h.r.2.2 i hi
    have hm : mst (pushX l k c) i = mst l i := rfl
    rw [hm, hat i (by rw [← h.nn]; exact hi)]
    by_cases e : i = k
    · subst e
      rw [if_pos rfl]
      refine ⟨hr.1, hr.2.1, ?_, fun x hx => ?_⟩
      · show ((l.list.getD i default).costs ++ [c]).length ≤ 200
        rw [hck]; simp; omega
      · rcases List.mem_append.1 hx with hx | hx
        · exact hr.2.2.2 x hx
        · rw [List.mem_singleton.1 hx]; exact hc
    · rw [if_neg e]; exact hr
  · rw [hat i hi]
    by_cases e : i = k
    · rw [if_pos e, if_pos e, hck]
    · rw [if_neg e, if_neg e, h.cc i hi, if_neg e]
theorem AL.start {w : List Int} (hw : newOk w) (hk : k < w.length) : AL w.length k [] (newL w) := by
  have e := fl_new (costs := []) hw
  rw [e]
  refine ⟨fl_right hw (by omega), fl_len, hk, fun i hi => ?_⟩
  rw [fl_at hi]; unfold flL
  rw [if_neg (Nat.not_lt_zero i)]
  split <;> split <;> rfl
section
variable {P : Program} {F : Nat → Nat}
end
end Lk.S05
namespace Lk.S05
open Go Lk Lk.C
def cA (l : Ls) (i : Nat) : List Int := (l.list.getD i default).costs
def lft (l : List Ln) : Nat := (l.map fun x => x.costs.length).sum
theorem lft_cons {x : Ln} {l : List Ln} : lft (x :: l) = x.costs.length + lft l := by unfold lft; simp
theorem lft_eq : ∀ {l m : List Ln}, m.length = l.length → (∀ i, i < l.length → (m.getD i default).costs.length = (l.getD i default).costs.length) → lft m = lft l
  | [], [], _, _ => rfl
  | x :: l, y :: m, h, e => by
    have h : m.length + 1 = l.length + 1 := h
    have e0 := e 0 (Nat.succ_pos _)
    have e0 : y.costs.length = x.costs.length := e0
    rw [lft_cons, lft_cons, e0, lft_eq (l := l) (m := m) (by omega) fun i hi => e (i + 1) (Nat.succ_lt_succ hi)]
  | [], y :: m, h, _ => by cases h
  | x :: l, [], h, _ => by cases h
theorem lft_one : ∀ {l m : List Ln} {k : Nat}, m.length = l.length → k < l.length → (∀ i, i < l.length → i ≠ k → (m.getD i default).costs = (l.getD i default).costs) →
    lft m + (l.getD k default).costs.length = lft l + (m.getD k default).costs.length
  | x :: l, y :: m, 0, h, _, e => by
    have h : m.length + 1 = l.length + 1 := h
    rw [lft_cons, lft_cons, lft_eq (l := l) (m := m) (by omega) fun i hi => congrArg List.length (e (i + 1) (Nat.succ_lt_succ hi) (by omega))]
    show y.costs.length + lft l + x.costs.length = x.costs.length + lft l + y.costs.length
    omega
  | x :: l, y :: m, k + 1, h, hk, e => by
    have h : m.length + 1 = l.length + 1 := h
    have hk : k + 1 < l.length + 1 := hk
    have e0 := e 0 (Nat.succ_pos _) (by omega)
    have e0 : y.costs = x.costs := e0
    have ih := lft_one (l := l) (m := m) (k := k) (by omega) (by omega) fun i hi hne => e (i + 1) (Nat.succ_lt_succ hi) (by omega)
    rw [lft_cons, lft_cons, e0]
    show x.costs.length + lft m + (l.getD k default).costs.length = x.costs.length + lft l + (m.getD k default).costs.length
    omega
  | [], _, _, _, h, _ => absurd h (Nat.not_lt_zero _)
  | x :: l, [], _, h, _, _ => absurd h (Nat.succ_ne_zero _).symm
theorem lft_le : ∀ {l : List Ln} {k : Nat}, k < l.length → (l.getD k default).costs.length ≤ lft l
  | x :: l, 0, _ => by rw [lft_cons]; show x.costs.length ≤ _; omega
  | x :: l, k + 1, h => by
    have h : k + 1 < l.length + 1 := h
    have := lft_le (l := l) (k := k) (by omega)
    rw [lft_cons]
    show (l.getD k default).costs.length ≤ _
    omega
  | [], _, h => absurd h (Nat.not_lt_zero _)
theorem lft_pos : ∀ {l : List Ln}, (∃ x ∈ l, x.costs ≠ []) ↔ 0 < lft l
  | [] => ⟨fun ⟨x, h⟩ => absurd h.1 List.not_mem_nil, fun h => absurd h (Nat.lt_irrefl 0)⟩
  | y :: l => by
    rw [lft_cons]
    constructor
    · rintro ⟨x, hx, hne⟩
      rcases List.mem_cons.1 hx with rfl | hx
      · have := List.length_pos_iff.2 hne; omega
      · have := lft_pos.1 ⟨x, hx, hne⟩; omega
    · intro h
      by_cases e : y.costs = []
      · rw [e] at h
        obtain ⟨x, hx, hne⟩ := lft_pos.2 (show 0 < lft l by simpa using h)
        exact ⟨x, List.mem_cons_of_mem _ hx, hne⟩
      · exact ⟨y, List.mem_cons_self, e⟩
structure LA (n m : Nat) (l : Ls) : Prop where
  r : right l
  nn : l.list.length = n
  ll : lft l.list = m
variable {n m : Nat} {l : Ls}
theorem LA.waits (h : LA n m l) : waits l ↔ 0 < m := by rw [← h.ll]; exact lft_pos
theorem LA.push {k : Nat} {c : Int} (h : LA n m l) (hk : k < n) (hc : 1 ≤ c ∧ c ≤ 8) (hm : m < 150) :
    pushE l k c = 0 ∧ LA n (m + 1) (pushL l k c) ∧ cA (pushL l k c) k = cA l k ++ [c] ∧ ∀ i, i < n → i ≠ k → cA (pushL l k c) i = cA l i := by
  have hp : pushOk l k c := ⟨h.r, ⟨by omega, by rw [h.nn]; omega⟩, hc.1, hc.2⟩
  have hck := lft_le (l := l.list) (k := k) (by rw [h.nn]; exact hk)
  rw [h.ll] at hck
  have he : pushE l k c = 0 := by
    unfold pushE; rw [if_pos hp, Int.toNat_natCast, if_neg (by omega)]
  refine ⟨he, ?_⟩
  have e : pushL l k c = pushX l k c := by unfold pushL; rw [if_pos he, Int.toNat_natCast]
  rw [e]
  have hlen : (pushX l k c).list.length = l.list.length := List.length_set ..
  have hat : ∀ i, i < n → (pushX l k c).list.getD i default = if i = k then ⟨(l.list.getD k default).weight, (l.list.getD k default).deficit, (l.list.getD k default).costs ++ [c]⟩ else l.list.getD i default := fun i hi => setL_getD (by rw [h.nn]; exact hi)
  have hak : ((pushX l k c).list.getD k default).costs = (l.list.getD k default).costs ++ [c] := by rw [hat k hk, if_pos rfl]
  have hao : ∀ i, i < n → i ≠ k → (pushX l k c).list.getD i default = l.list.getD i default := fun i hi hne => by rw [hat i hi, if_neg hne]
  have hsum := lft_one (l := l.list) (m := (pushX l k c).list) hlen (by rw [h.nn]; exact hk) fun i hi hne => congrArg Ln.costs (hao i (by rw [← h.nn]; exact hi) hne)
  rw [hak, List.length_append, h.ll] at hsum
  refine ⟨⟨⟨by rw [hlen]; exact h.r.1, by rw [hlen]; exact h.r.2.1, fun i hi => ?_⟩, by rw [hlen]; exact h.nn, by simp at hsum; omega⟩, hak, fun i hi hne => congrArg Ln.costs (hao i hi hne)⟩
  rw [hlen] at hi
  have hr := h.r.2.2 i hi
  have hm : mst (pushX l k c) i = mst l i := rfl
  rw [hm, hat i (by rw [← h.nn]; exact hi)]
  by_cases e : i = k
  · subst e
    rw [if_pos rfl]
    refine ⟨hr.1, hr.2.1, ?_, fun x hx => ?_⟩
    · show ((l.list.getD i default).costs ++ [c]).length ≤ 200
      rw [List.length_append]; show (l.list.getD i default).costs.length + 1 ≤ 200; omega
    · rcases List.mem_append.1 hx with hx | hx
      · exact hr.2.2.2 x hx
      · rw [List.mem_singleton.1 hx]; exact hc
  · rw [if_neg e]; exact hr
theorem LA.next (h : LA n (m + 1) l) : nextOk l ∧ LA n m (nextL l) ∧ ∃ k : Nat, nextA l = k ∧ k < n ∧ cA l k ≠ [] ∧ cA (nextL l) k = (cA l k).drop 1 ∧ nextC l = (cA l k).getD 0 default ∧ ∀ i, i < n → i ≠ k → cA (nextL l) i = cA l i := by
  have hok : nextOk l := ⟨h.r, h.waits.2 (Nat.succ_pos _)⟩
  have key := nx_ind (fun m => m.list.length = n ∧ ∀ i, i < n → cA m i = cA l i) (fun m c => m.list.length = n ∧ ∃ k : Nat, m.at_ = k ∧ k < n ∧ cA l k ≠ [] ∧
    cA m k = (cA l k).drop 1 ∧ c = (cA l k).getD 0 default ∧ ∀ i, i < n → i ≠ k → cA m i = cA l i)
    (fun a b ha hw hj ht => ?_) (fun a ha hj hc hg => ?_) h.r hok.2 ⟨h.nn, fun i hi => rfl⟩
  · obtain ⟨k1, k2, k, k3, k4, k5, k6, k7, k8⟩ := key
    have e1 : nextL l = (nx l).1 := if_pos hok
    have e2 : nextA l = (nx l).1.at_ := if_pos hok
    have e3 : nextC l = (nx l).2 := if_pos hok
    rw [e1, e2, e3]
    have hsum := lft_one (l := l.list) (m := (nx l).1.list) (k2.trans h.nn.symm) (by rw [h.nn]; exact k4) fun i hi hne => k8 i (by rw [← h.nn]; exact hi) hne
    rw [h.ll] at hsum
    have hp : 0 < (cA l k).length := List.length_pos_iff.2 k5
    have hs2 : lft (nx l).1.list + (cA l k).length = m + 1 + (cA (nx l).1 k).length := hsum
    rw [k6, List.length_drop] at hs2
    exact ⟨hok, ⟨k1, k2, by omega⟩, k, k3, k4, k5, k6, k7, k8⟩
  · have hb : ∃ dd, b = adv a dd := by
      unfold turn at ht
      split at ht
      · cases ht; exact ⟨_, rfl⟩
      · split at ht
        · cases ht; exact ⟨_, rfl⟩
        · cases ht
    obtain ⟨dd, rfl⟩ := hb
    refine ⟨(adv_len dd).trans hj.1, fun i hi => ?_⟩
    have hi' : i < a.list.length := by rw [hj.1]; exact hi
    show ((adv a dd).list.getD i default).costs = _
    rw [adv_at hi']
    by_cases e : i = pos a
    · rw [if_pos e]
      have := hj.2 i hi
      subst e
      exact this
    · rw [if_neg e]; exact hj.2 i hi
  · have hp := ha.pos
    have hpl : pos a < n := by rw [← hj.1]; exact hp.1
    have hcur : (cur a).costs = cA l (pos a) := hj.2 _ hpl
    refine ⟨srv_len.trans hj.1, pos a, hp.2.symm, hpl, by rw [← hcur]; exact hc, ?_, by unfold hd0; rw [hcur], fun i hi hne => ?_⟩
    · show ((srv a).list.getD (pos a) default).costs = _
      rw [srv_at hp.1, if_pos rfl, ← hcur]
    · show ((srv a).list.getD i default).costs = _
      rw [srv_at (by rw [hj.1]; exact hi), if_neg hne]; exact hj.2 i hi
theorem LA.stop (h : LA n 0 l) : ¬ nextOk l := fun x => absurd (h.waits.1 x.2) (Nat.lt_irrefl 0)
theorem LA.start {w : List Int} (hw : newOk w) : LA w.length 0 (newL w) ∧ ∀ i, i < w.length → cA (newL w) i = [] := by
  have e := fl_new (costs := []) hw
  have e2 : newL w = ⟨w.map newLn, 0, false⟩ := if_pos hw
  have hc : ∀ i, i < w.length → cA (newL w) i = [] := fun i hi => by
    rw [e2]; show ((w.map newLn).getD i default).costs = []
    rw [getD_eq (show i < (w.map newLn).length by simpa using hi), List.getElem_map]; rfl
  refine ⟨⟨by rw [e]; exact fl_right hw (by omega), by rw [e2]; simp, ?_⟩, hc⟩
  refine Nat.eq_zero_of_not_pos fun hp => ?_
  obtain ⟨x, hx, hne⟩ := lft_pos.2 hp
  rw [e2] at hx
  obtain ⟨y, _, rfl⟩ := List.mem_map.1 hx
  exact hne rfl
end Lk.S05
