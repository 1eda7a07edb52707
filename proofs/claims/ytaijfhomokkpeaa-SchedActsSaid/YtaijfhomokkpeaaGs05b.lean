/-
  Gs05b: what these chapters need.
-/
import Derived.Test.YtaijfhomokkpeaaGs05a
set_option linter.unusedSimpArgs false
set_option maxHeartbeats 8000000
set_option maxRecDepth 100000
set_option linter.unusedVariables false
namespace Lk.S05
open Go Lk Lk.C
def cst (costs : List (List UInt8)) (i k : Nat) : Int :=
  if i < costs.length ∧ 0 < (costs.getD i default).length then 1 + (((costs.getD i default).getD (k % (costs.getD i default).length) default).toNat : Int) % 8 else 1 + ((i + k : Nat) : Int) % 8
theorem cst_ok {costs : List (List UInt8)} {i k : Nat} : 1 ≤ cst costs i k ∧ cst costs i k ≤ 8 := by unfold cst; split <;> omega
def flL (w : List Int) (costs : List (List UInt8)) (i k r : Nat) : Ln := ⟨w.getD r default, 0, (List.range (if r < i then 150 else if r = i then k else 0)).map (cst costs r)⟩
def fl (w : List Int) (costs : List (List UInt8)) (i k : Nat) : Ls := ⟨(List.range w.length).map (flL w costs i k), 0, false⟩
theorem fl_len {w : List Int} {costs : List (List UInt8)} {i k : Nat} : (fl w costs i k).list.length = w.length := by unfold fl; simp
theorem fl_at {w : List Int} {costs : List (List UInt8)} {i k r : Nat} (h : r < w.length) : (fl w costs i k).list.getD r default = flL w costs i k r := by
  unfold fl
  rw [getD_eq (by simpa using h)]; simp
theorem fl_right {w : List Int} {costs : List (List UInt8)} {i k : Nat} (hw : newOk w) (hk : k ≤ 150) : right (fl w costs i k) := by
  obtain ⟨⟨h1, h2⟩, h3⟩ := hw
  refine ⟨by rw [fl_len]; exact ⟨h1, h2⟩, by rw [fl_len]; exact ⟨by show (0 : Int) ≤ 0; omega, by show (0 : Int) < _; omega⟩, fun r hr => ?_⟩
  rw [fl_len] at hr
  rw [fl_at hr]
  have hm : mst (fl w costs i k) r = 7 := if_neg fun x => absurd x.2 (by show ¬ (false = true); decide)
  rw [hm]
  refine ⟨h3 _ (getD_mem hr), by show (0 : Int) ≤ 0 ∧ (0 : Int) ≤ 7; omega, ?_, fun c hc => ?_⟩
  · show ((List.range _).map _).length ≤ 200
    rw [List.length_map, List.length_range]; split
    · decide
    · split <;> omega
  · obtain ⟨j, _, rfl⟩ := List.mem_map.1 hc; exact cst_ok
theorem fl_new {w : List Int} {costs : List (List UInt8)} (hw : newOk w) : newL w = fl w costs 0 0 := by
  unfold newL; rw [if_pos hw]
  unfold fl
  congr 1
  refine List.ext_getElem (by simp) fun r h1 h2 => ?_
  simp only [List.getElem_map, List.getElem_range]
  unfold flL newLn
  have h1 : r < w.length := by simpa using h1
  rw [getD_eq h1]
  simp
section
variable {P : Program} {F : Nat → Nat}
end
end Lk.S05
namespace Lk.S05
open Go Lk Lk.C
def TT (l : Ls) (K : Int) (i : Nat) : Int := if i < pos l ∨ (i = pos l ∧ l.given = true) then K + 1 else K
structure FI (w : List Int) (S : List Int) (m : Nat) (K : Int) (l : Ls) : Prop where
  r : right l
  n : l.list.length = w.length
  sn : S.length = w.length
  ww : ∀ i, i < w.length → (l.list.getD i default).weight = w.getD i default
  c : ∀ i, i < w.length → 150 ≤ (l.list.getD i default).costs.length + m
  g : l.given = true → (cur l).deficit ≤ 4 * (cur l).weight + 7
  b : ∀ i, i < w.length → 0 ≤ S.getD i default ∧ S.getD i default ≤ 8 * m
  e : ∀ i, i < w.length → S.getD i default + (l.list.getD i default).deficit = 4 * w.getD i default * TT l K i
variable {w S : List Int} {m : Nat} {K : Int} {l : Ls}
theorem FI.ne (h : FI w S m K l) (hm : m ≤ 148) : 2 ≤ (cur l).costs.length := by
  have := h.c (pos l) (by rw [← h.n]; exact h.r.pos.1)
  unfold cur; omega
theorem FI.waits (h : FI w S m K l) (hm : m ≤ 148) : waits l := by
  rw [← waits_fst]
  have hn := h.ne hm
  exact fstN_lt_iff.2 ⟨pos l, h.r.pos.1, decide_eq_true (by unfold cur at hn; omega)⟩
theorem FI.advS (h : FI w S m K l) (hm : m ≤ 148) (hg : gv l < hd0 l) : ∃ K', FI w S m K' (adv l (gv l)) := by
  have hp := h.r.pos
  have hgb := gv_bd h.r
  have hne : (cur l).costs ≠ [] := fun x => by have := h.ne hm; rw [x] at this; simp at this
  have hh := hd_bd h.r hne
  have hr := adv_right (d := gv l) h.r (by omega) (by omega)
  have hpa := adv_pos (d := gv l) h.r
  have hpn : pos l < w.length := by rw [← h.n]; exact hp.1
  have ee := h.e (pos l) hpn
  have ew := h.ww (pos l) hpn
  have key : ∀ K' : Int, (∀ i, i < w.length → i ≠ pos l → TT (S05.adv l (gv l)) K' i = TT l K i) → TT (S05.adv l (gv l)) K' (pos l) = K + 1 → FI w S m K' (S05.adv l (gv l)) := fun K' h1 h2 => by
    refine ⟨hr, by rw [adv_len]; exact h.n, h.sn, fun i hi => ?_, fun i hi => ?_, fun x => absurd x (by show ¬ (false = true); decide), h.b, fun i hi => ?_⟩
    · rw [adv_at (by rw [h.n]; exact hi)]
      by_cases e : i = pos l
      · rw [if_pos e, e]; exact ew
      · rw [if_neg e]; exact h.ww i hi
    · rw [adv_at (by rw [h.n]; exact hi)]
      by_cases e : i = pos l
      · rw [if_pos e]; have := h.c i hi; rw [e] at this; exact this
      · rw [if_neg e]; exact h.c i hi
    · rw [adv_at (by rw [h.n]; exact hi)]
      by_cases e : i = pos l
      · rw [if_pos e, e, h2]
        show S.getD (pos l) default + gv l = _
        unfold gv
        cases hgv : l.given with
        | true =>
          rw [if_pos rfl]
          rw [show TT l K (pos l) = K + 1 from if_pos (.inr ⟨rfl, hgv⟩)] at ee
          exact ee
        | false =>
          rw [if_neg (by decide)]
          rw [show TT l K (pos l) = K from if_neg (fun x => by rcases x with x | x <;> first | omega | (rw [hgv] at x; exact absurd x.2 (by decide)))] at ee
          rw [Int.mul_add, Int.mul_one, ← ee]
          unfold cur; rw [ew]; omega
      · rw [if_neg e, h1 i hi e]; exact h.e i hi
  have hgf : ¬ (S05.adv l (gv l)).given = true := by show ¬ (false = true); decide
  rw [h.n] at hpa
  rcases Nat.lt_or_ge (pos l + 1) w.length with hc | hc
  · rw [Nat.mod_eq_of_lt hc] at hpa
    refine ⟨K, key K (fun i hi e => ?_) (if_pos (.inl (by rw [hpa]; omega)))⟩
    unfold TT
    rw [hpa]
    by_cases e2 : i < pos l
    · rw [if_pos (.inl (by omega)), if_pos (.inl e2)]
    · rw [if_neg (fun x => by rcases x with x | x <;> first | omega | exact hgf x.2), if_neg (fun x => by rcases x with x | x <;> omega)]
  · have : pos l + 1 = w.length := by omega
    rw [this, Nat.mod_self] at hpa
    have h0 : ∀ i, TT (S05.adv l (gv l)) (K + 1) i = K + 1 := fun i => if_neg (fun x => by rcases x with x | x <;> first | omega | exact hgf x.2)
    refine ⟨K + 1, key (K + 1) (fun i hi e => ?_) (h0 _)⟩
    rw [h0]
    exact (if_pos (.inl (by omega))).symm
theorem FI.srvS (h : FI w S m K l) (hm : m ≤ 148) (hg : ¬ gv l < hd0 l) : FI w (S.set (pos l) (S.getD (pos l) default + hd0 l)) (m + 1) K (srv l) := by
  have hp := h.r.pos
  have hgb := gv_bd h.r
  have hne2 := h.ne hm
  have hne : (cur l).costs ≠ [] := fun x => by rw [x] at hne2; simp at hne2
  have hh := hd_bd h.r hne
  have hr := srv_right h.r hne hg
  have hpn : pos l < w.length := by rw [← h.n]; exact hp.1
  have ee := h.e (pos l) hpn
  have ew := h.ww (pos l) hpn
  have hdr : ¬ (cur l).costs.drop 1 = [] := fun x => by
    have : ((cur l).costs.drop 1).length = 0 := by rw [x]; rfl
    rw [List.length_drop] at this; omega
  have hps : pos (srv l) = pos l := rfl
  have hcur : cur (S05.srv l) = ⟨(cur l).weight, gv l - hd0 l, (cur l).costs.drop 1⟩ := by
    show (S05.srv l).list.getD (pos l) default = _
    rw [srv_at hp.1, if_pos rfl, if_neg hdr]
  have hT : TT (S05.srv l) K (pos l) = K + 1 := if_pos (.inr ⟨rfl, rfl⟩)
  have hTo : ∀ i, i ≠ pos l → TT (S05.srv l) K i = TT l K i := fun i e => by
    unfold TT; rw [hps]
    by_cases e2 : i < pos l
    · rw [if_pos (.inl e2), if_pos (.inl e2)]
    · rw [if_neg (fun x => by rcases x with x | x <;> omega), if_neg (fun x => by rcases x with x | x <;> omega)]
  have hgl : gv l = (if l.given = true then (cur l).deficit else (cur l).deficit + (cur l).weight * 4) := rfl
  have hSat : ∀ i, i < w.length → (S.set (pos l) (S.getD (pos l) default + hd0 l)).getD i default = if i = pos l then S.getD (pos l) default + hd0 l else S.getD i default := fun i hi => setL_getD (by rw [h.sn]; exact hi)
  have hcl := h.r.cur
  refine ⟨hr, by rw [srv_len]; exact h.n, by rw [List.length_set]; exact h.sn, fun i hi => ?_, fun i hi => ?_, fun _ => ?_, fun i hi => ?_, fun i hi => ?_⟩
  · rw [srv_at (by rw [h.n]; exact hi)]
    by_cases e : i = pos l
    · rw [if_pos e, e]; exact ew
    · rw [if_neg e]; exact h.ww i hi
  · rw [srv_at (by rw [h.n]; exact hi)]
    have hc := h.c i hi
    by_cases e : i = pos l
    · rw [if_pos e]; rw [e] at hc
      show 150 ≤ ((cur l).costs.drop 1).length + (m + 1)
      rw [List.length_drop]; unfold cur at *; omega
    · rw [if_neg e]; omega
  · rw [hcur]
    show gv l - hd0 l ≤ 4 * (cur l).weight + 7
    rw [hgl]
    cases hgv : l.given with
    | true => have := h.g hgv; rw [if_pos rfl]; omega
    | false =>
      rw [if_neg (by decide)]
      rw [show mst l (pos l) = 7 from if_neg fun x => by rw [hgv] at x; exact absurd x.2 (by decide)] at hcl
      have := hcl.2.1.2; omega
  · rw [hSat i hi]
    have := h.b i hi
    by_cases e : i = pos l
    · rw [if_pos e]; rw [e] at this; omega
    · rw [if_neg e]; omega
  · rw [hSat i hi, srv_at (by rw [h.n]; exact hi)]
    by_cases e : i = pos l
    · rw [if_pos e, if_pos e, if_neg hdr, e, hT]
      show S.getD (pos l) default + hd0 l + (gv l - hd0 l) = _
      rw [hgl]
      cases hgv : l.given with
      | true =>
        rw [if_pos rfl]
        rw [show TT l K (pos l) = K + 1 from if_pos (.inr ⟨rfl, hgv⟩)] at ee
        rw [← ee]; unfold cur; omega
      | false =>
        rw [if_neg (by decide)]
        rw [show TT l K (pos l) = K from if_neg (fun x => by rcases x with x | x <;> first | omega | (rw [hgv] at x; exact absurd x.2 (by decide)))] at ee
        rw [Int.mul_add, Int.mul_one, ← ee]
        unfold cur; rw [ew]; omega
    · rw [if_neg e, if_neg e, hTo i e]; exact h.e i hi
structure FStep (w S : List Int) (m : Nat) (l' : Ls) (c : Int) : Prop where
  i : ∃ K, FI w (S.set (pos l') (S.getD (pos l') default + c)) (m + 1) K l'
  g : l'.given = true
  c : 1 ≤ c ∧ c ≤ 8
theorem FI.next (h : ∃ K, FI w S m K l) (hm : m ≤ 148) : nextOk l ∧ right (nextL l) ∧ FStep w S m (nextL l) (nextC l) ∧ nextA l = ((pos (nextL l) : Nat) : Int) ∧ pos (nextL l) < w.length := by
  obtain ⟨K0, h0⟩ := h
  have hok : nextOk l := ⟨h0.r, h0.waits hm⟩
  have := nx_ind (fun l => ∃ K, FI w S m K l) (fun l' c => FStep w S m l' c) (fun l k hr hw ⟨K, hJ⟩ ht => by
    unfold turn at ht
    have h2 := hJ.ne hm
    split at ht
    · rename_i x; rw [x] at h2; simp at h2
    · split at ht
      · rename_i hd
        obtain rfl : adv l (gv l) = k := congrArg Prod.fst ht
        exact hJ.advS hm hd
      · cases congrArg Prod.snd ht) (fun l hr ⟨K, hJ⟩ hn hd => ⟨⟨K, hJ.srvS hm hd⟩, rfl, hd_bd hr hn⟩) h0.r hok.2 ⟨K0, h0⟩
  have e1 : nextL l = (nx l).1 := if_pos hok
  have e2 : nextC l = (nx l).2 := if_pos hok
  have e3 : nextA l = (nx l).1.at_ := if_pos hok
  rw [e1, e2, e3]
  obtain ⟨K, hK⟩ := this.2.i
  exact ⟨hok, this.1, this.2, this.1.pos.2.symm, by have := hK.n; rw [← this]; exact hK.r.pos.1⟩
theorem FI.start {costs : List (List UInt8)} (hw : newOk w) : FI w (List.replicate w.length 0) 0 0 (fl w costs w.length 0) := by
  have hz : ∀ i, i < w.length → (List.replicate w.length (0 : Int)).getD i default = 0 := fun i hi => by rw [getD_eq (by simpa using hi)]; exact List.getElem_replicate ..
  refine ⟨fl_right hw (by omega), fl_len, by simp, fun i hi => by rw [fl_at hi]; rfl, fun i hi => ?_, fun x => absurd x (by show ¬ (false = true); decide), fun i hi => by rw [hz i hi]; exact ⟨Int.le_refl _, by omega⟩, fun i hi => ?_⟩
  · rw [fl_at hi]; unfold flL; simp [if_pos hi]
  · rw [fl_at hi, hz i hi]
    have : TT (fl w costs w.length 0) 0 i = 0 := if_neg (fun x => by
      have hp : pos (fl w costs w.length 0) = 0 := rfl
      rcases x with x | x
      · omega
      · exact absurd x.2 (by show ¬ (false = true); decide))
    rw [this, Int.mul_zero]; rfl
end Lk.S05
namespace Lk.S05
open Go Lk Lk.C
structure Since (w S0 S D : List Int) (m : Nat) : Prop where
  n : D.length = w.length
  e : ∀ i, i < w.length → D.getD i default + S0.getD i default = S.getD i default
  b : ∀ i, i < w.length → 0 ≤ D.getD i default ∧ D.getD i default ≤ 8 * m
theorem Since.step {w S0 S D : List Int} {m p : Nat} {c : Int} (h : Since w S0 S D m) (hs : S.length = w.length) (hc : 1 ≤ c ∧ c ≤ 8) : Since w S0 (S.set p (S.getD p default + c)) (D.set p (D.getD p default + c)) (m + 1) := by
  have hs1 : ∀ i, i < w.length → (S.set p (S.getD p default + c)).getD i default = if i = p then S.getD p default + c else S.getD i default := fun i hi => setL_getD (by rw [hs]; exact hi)
  have hs2 : ∀ i, i < w.length → (D.set p (D.getD p default + c)).getD i default = if i = p then D.getD p default + c else D.getD i default := fun i hi => setL_getD (by rw [h.n]; exact hi)
  refine ⟨by rw [List.length_set]; exact h.n, fun i hi => ?_, fun i hi => ?_⟩
  · rw [hs1 i hi, hs2 i hi]
    have := h.e i hi
    by_cases e : i = p
    · rw [if_pos e, if_pos e]; subst e; omega
    · rw [if_neg e, if_neg e]; exact this
  · rw [hs2 i hi]
    have := h.b i hi
    by_cases e : i = p
    · rw [if_pos e]; rw [e] at this; omega
    · rw [if_neg e]; omega
section
variable {P : Program} {F : Nat → Nat}
end
end Lk.S05
namespace Lk.S05
open Go Lk Lk.C
structure AL (n k : Nat) (cs : List Int) (l : Ls) : Prop where
  r : right l
  nn : l.list.length = n
  kk : k < n
  cc : ∀ i, i < n → (l.list.getD i default).costs = if i = k then cs else []
variable {n k : Nat} {cs : List Int} {l : Ls}
theorem AL.waits (h : AL n k cs l) : waits l ↔ cs ≠ [] := by
  rw [← waits_fst, fstN_lt_iff]
  constructor
  · rintro ⟨i, hi, hb⟩ rfl
    have hb := of_decide_eq_true hb
    rw [h.cc i (by rw [← h.nn]; exact hi)] at hb
    split at hb <;> simp at hb
  · intro hc
    refine ⟨k, by rw [h.nn]; exact h.kk, decide_eq_true ?_⟩
    rw [h.cc k h.kk, if_pos rfl]
    exact List.length_pos_iff.2 hc
theorem AL.next (h : AL n k cs l) (hc : cs ≠ []) : nextOk l ∧ AL n k (cs.drop 1) (nextL l) ∧ nextA l = (k : Int) ∧ nextC l = cs.getD 0 default := by
  have hok : nextOk l := ⟨h.r, h.waits.2 hc⟩
  have := nx_ind (fun l => AL n k cs l) (fun l' c => AL n k (cs.drop 1) l' ∧ l'.at_ = (k : Int) ∧ c = cs.getD 0 default) (fun l m hr hw hJ ht => by
    have hm := (turn_none hr hw ht).1
    have ha : ∃ d, m = adv l d := by
      unfold turn at ht
      split at ht
      · exact ⟨_, (congrArg Prod.fst ht).symm⟩
      · split at ht
        · exact ⟨_, (congrArg Prod.fst ht).symm⟩
        · cases congrArg Prod.snd ht
    obtain ⟨d, rfl⟩ := ha
    refine ⟨hm, by rw [adv_len]; exact hJ.nn, hJ.kk, fun i hi => ?_⟩
    rw [adv_at (by rw [hJ.nn]; exact hi)]
    by_cases e : i = pos l
    · rw [if_pos e, ← hJ.cc i hi, e]; rfl
    · rw [if_neg e]; exact hJ.cc i hi) (fun l hr hJ hn hd => by
    have hp := hr.pos
    have hpn : pos l < n := by rw [← hJ.nn]; exact hp.1
    have hcp := hJ.cc (pos l) hpn
    have hk : pos l = k := Decidable.byContradiction fun x => hn (by show (l.list.getD (pos l) default).costs = []; rw [hcp, if_neg x])
    rw [if_pos hk] at hcp
    have hcu : (cur l).costs = cs := hcp
    refine ⟨⟨srv_right hr hn hd, by rw [srv_len]; exact hJ.nn, hJ.kk, fun i hi => ?_⟩, by rw [← hk]; exact hp.2.symm, by unfold hd0; rw [hcu]⟩
    rw [srv_at (by rw [hJ.nn]; exact hi), hcu]
    by_cases e : i = pos l
    · rw [if_pos e]; show cs.drop 1 = _; rw [if_pos (by omega)]
    · rw [if_neg e, if_neg (by omega), hJ.cc i hi, if_neg (by omega)]) h.r hok.2 h
  have e1 : nextL l = (nx l).1 := if_pos hok
  have e2 : nextC l = (nx l).2 := if_pos hok
  have e3 : nextA l = (nx l).1.at_ := if_pos hok
  rw [e1, e2, e3]
  exact ⟨hok, this.2.1, this.2.2.1, this.2.2.2⟩
theorem AL.push {c : Int} (h : AL n k cs l) (hc : 1 ≤ c ∧ c ≤ 8) (hl : cs.length < 200) : pushE l k c = 0 ∧ AL n k (cs ++ [c]) (pushL l k c) := by
  have hp : pushOk l k c := ⟨h.r, ⟨by omega, by rw [h.nn]; have := h.kk; omega⟩, hc.1, hc.2⟩
  have hck := h.cc k h.kk
  rw [if_pos rfl] at hck
  have he : pushE l k c = 0 := by
    unfold pushE; rw [if_pos hp, Int.toNat_natCast, hck, if_neg (by omega)]
  refine ⟨he, ?_⟩
  have e : pushL l k c = pushX l k c := by unfold pushL; rw [if_pos he, Int.toNat_natCast]
  rw [e]
  have hlen : (pushX l k c).list.length = l.list.length := List.length_set ..
  have hat : ∀ i, i < n → (pushX l k c).list.getD i default = if i = k then ⟨(l.list.getD k default).weight, (l.list.getD k default).deficit, (l.list.getD k default).costs ++ [c]⟩ else l.list.getD i default := fun i hi => setL_getD (by rw [h.nn]; exact hi)
  refine ⟨⟨by rw [hlen]; exact h.r.1, by rw [hlen]; exact h.r.2.1, fun i hi => ?_⟩, by rw [hlen]; exact h.nn, h.kk, fun i hi => ?_⟩
  · rw [hlen] at hi
    have hr := h.r.2.2 i hi
    have hm : mst (pushX l k c) i = mst l i := rfl
    rw [hm, hat i (by rw [← h.nn]; exact hi)]
    by_cases e : i = k
    · subst e
      rw [if_pos rfl]
      refine ⟨hr.1, hr.2.1, ?_, fun x hx => ?_⟩
      · show ((l.list.getD i default).costs ++ [c]).length ≤ 200
        rw [hck]; simp; omega
      · rcases List.mem_append.1 hx with hx | hx
        · exact hr.2.2.2 x hx
        · rw [List.mem_singleton.1 hx]; exact hc
    · rw [if_neg e]; exact hr
  · rw [hat i hi]
    by_cases e : i = k
    · rw [if_pos e, if_pos e, hck]
    · rw [if_neg e, if_neg e, h.cc i hi, if_neg e]
theorem AL.start {w : List Int} (hw : newOk w) (hk : k < w.length) : AL w.length k [] (newL w) := by
  have e := fl_new (costs := []) hw
  rw [e]
  refine ⟨fl_right hw (by omega), fl_len, hk, fun i hi => ?_⟩
  rw [fl_at hi]; unfold flL
  rw [if_neg (Nat.not_lt_zero i)]
  split <;> split <;> rfl
section
variable {P : Program} {F : Nat → Nat}
end
end Lk.S05
namespace Lk.S05
open Go Lk Lk.C
structure EP (n : Nat) (c : Int) (i j : Nat) (l : Ls) : Prop where
  nn : l.list.length = n
  a0 : l.at_ = 0
  g0 : l.given = false
  ln : ∀ r, r < n → l.list.getD r default = ⟨1, 0, List.replicate (if r < i then 60 else if r = i then j else 0) c⟩
variable {n i j m e : Nat} {c : Int} {l : Ls}
theorem EP.right (h : EP n c i j l) (hn : 2 ≤ n ∧ n ≤ 6) (hc : 1 ≤ c ∧ c ≤ 8) (hj : j ≤ 60) : right l := by
  refine ⟨by rw [h.nn]; omega, by rw [h.nn, h.a0]; omega, fun r hr => ?_⟩
  rw [h.nn] at hr
  rw [h.ln r hr, show mst l r = 7 from if_neg fun x => by rw [h.g0] at x; exact absurd x.2 (by decide)]
  refine ⟨by show (1 : Int) ≤ 1 ∧ (1 : Int) ≤ 8; omega, by show (0 : Int) ≤ 0 ∧ (0 : Int) ≤ 7; omega, ?_, fun x hx => ?_⟩
  · show (List.replicate _ c).length ≤ 200
    rw [List.length_replicate]; split
    · decide
    · split <;> omega
  · rw [List.eq_of_mem_replicate hx]; exact hc
theorem EP.push (h : EP n c i j l) (hn : 2 ≤ n ∧ n ≤ 6) (hc : 1 ≤ c ∧ c ≤ 8) (hj : j < 60) (hi : i < n) : pushE l i c = 0 ∧ EP n c i (j + 1) (pushL l i c) := by
  have hp : pushOk l i c := ⟨h.right hn hc (by omega), ⟨by omega, by rw [h.nn]; omega⟩, hc.1, hc.2⟩
  have hck := h.ln i hi
  rw [if_neg (Nat.lt_irrefl i), if_pos rfl] at hck
  have he : pushE l i c = 0 := by
    unfold pushE; rw [if_pos hp, Int.toNat_natCast, hck]
    show (if (List.replicate j c).length ≥ 200 then (7 : Int) else 0) = 0
    rw [List.length_replicate, if_neg (by omega)]
  refine ⟨he, ?_⟩
  have e : pushL l i c = pushX l i c := by unfold pushL; rw [if_pos he, Int.toNat_natCast]
  rw [e]
  refine ⟨(List.length_set ..).trans h.nn, h.a0, h.g0, fun r hr => ?_⟩
  have : (pushX l i c).list.getD r default = if r = i then ⟨(l.list.getD i default).weight, (l.list.getD i default).deficit, (l.list.getD i default).costs ++ [c]⟩ else l.list.getD r default := setL_getD (by rw [h.nn]; exact hr)
  rw [this]
  by_cases e : r = i
  · rw [if_pos e, hck, if_neg (by omega), if_pos e, List.replicate_succ']
  · rw [if_neg e, h.ln r hr, if_neg e, if_neg e]
theorem EP.start (hn : 2 ≤ n ∧ n ≤ 6) : EP n c 0 0 (newL (List.replicate n 1)) ∧ newE (List.replicate n 1) = 0 := by
  have hw : newOk (List.replicate n (1 : Int)) := ⟨by rw [List.length_replicate]; omega, fun x hx => by rw [List.eq_of_mem_replicate hx]; omega⟩
  refine ⟨?_, if_pos hw⟩
  rw [show newL (List.replicate n 1) = ⟨(List.replicate n 1).map newLn, 0, false⟩ from if_pos hw]
  refine ⟨by simp, rfl, rfl, fun r hr => ?_⟩
  rw [getD_eq (by simpa using hr)]
  simp only [List.getElem_map, List.getElem_replicate]
  rw [if_neg (Nat.not_lt_zero r)]
  unfold newLn
  split <;> rfl
structure JE (n : Nat) (c : Int) (e m : Nat) (l : Ls) : Prop where
  r : S05.right l
  nn : l.list.length = n
  ww : ∀ i, i < n → (l.list.getD i default).weight = 1
  cs : ∀ i, i < n → 60 ≤ (l.list.getD i default).costs.length + m ∧ ∀ x ∈ (l.list.getD i default).costs, x = c
  d : ∀ i, i < n → i ≠ pos l → (l.list.getD i default).deficit = 0
  s : (l.given = false ∧ (cur l).deficit = 0 ∧ ∃ q, m = e * q ∧ pos l = q % n) ∨ (l.given = true ∧ ∃ q s, 1 ≤ s ∧ s ≤ e ∧ m = e * q + s ∧ pos l = q % n ∧ (cur l).deficit = 4 - c * (s : Nat))
theorem JE.start (h : EP n c n 0 l) (hn : 2 ≤ n ∧ n ≤ 6) (hc : 1 ≤ c ∧ c ≤ 8) : JE n c e 0 l := by
  have hp : pos l = 0 := by unfold pos; rw [h.a0]; rfl
  refine ⟨h.right hn hc (by omega), h.nn, fun i hi => by rw [h.ln i hi], fun i hi => ?_, fun i hi _ => by rw [h.ln i hi], .inl ⟨h.g0, ?_, 0, rfl, by rw [hp, Nat.zero_mod]⟩⟩
  · rw [h.ln i hi, if_pos hi]
    exact ⟨by show 60 ≤ (List.replicate 60 c).length + 0; rw [List.length_replicate]; omega, fun x hx => List.eq_of_mem_replicate hx⟩
  · unfold cur; rw [hp, h.ln 0 (by omega)]
theorem JE.cur (h : JE n c e m l) (hm : m ≤ 59) : pos l < n ∧ (cur l).weight = 1 ∧ 60 ≤ (cur l).costs.length + m ∧ (cur l).costs ≠ [] ∧ hd0 l = c := by
  have hp : pos l < n := by rw [← h.nn]; exact h.r.pos.1
  have a := h.ww _ hp
  have b := h.cs _ hp
  have h60 : 60 ≤ (S05.cur l).costs.length + m := b.1
  have hne : (S05.cur l).costs ≠ [] := fun x => by rw [x] at h60; simp at h60; omega
  refine ⟨hp, a, h60, hne, ?_⟩
  unfold hd0
  exact b.2 _ (getD_mem (List.length_pos_iff.2 hne))
theorem JE.next (h : JE n c e m l) (hn : 2 ≤ n ∧ n ≤ 6) (hce : (c = 4 ∧ e = 1) ∨ (c = 2 ∧ e = 2)) (hm : m ≤ 59) : nextOk l ∧ (m ≤ 58 → JE n c e (m + 1) (nextL l)) ∧ nextA l = ((m / e % n : Nat) : Int) ∧ nextC l = c := by
  have hw : waits l := by
    rw [← waits_fst, fstN_lt_iff]
    obtain ⟨a, b, d, f, -⟩ := h.cur hm
    exact ⟨pos l, h.r.pos.1, decide_eq_true (List.length_pos_iff.2 f)⟩
  have hok : nextOk l := ⟨h.r, hw⟩
  have := nx_ind (fun l => JE n c e m l) (fun l' c' => (m ≤ 58 → JE n c e (m + 1) l') ∧ l'.at_ = ((m / e % n : Nat) : Int) ∧ c' = c) (fun l k hr hw hJ ht => by
    have hk := (turn_none hr hw ht).1
    obtain ⟨hp, w1, l1, hne, hh⟩ := hJ.cur hm
    unfold turn at ht
    rw [if_neg hne] at ht
    split at ht
    · rename_i hd
      obtain rfl : adv l (gv l) = k := congrArg Prod.fst ht
      rw [hh] at hd
      unfold gv at hd
      rw [w1] at hd
      rcases hJ.s with ⟨g, d0, -⟩ | ⟨g, q, s, s1, s2, mq, hq, ds⟩
      · rw [g, d0, if_neg (by decide)] at hd
        rcases hce with ⟨rfl, rfl⟩ | ⟨rfl, rfl⟩ <;> omega
      · rw [g, if_pos rfl, ds] at hd
        have hse : s = e := by rcases hce with ⟨rfl, rfl⟩ | ⟨rfl, rfl⟩ <;> omega
        have hg0 : gv l = 0 := by
          unfold gv; rw [g, if_pos rfl, ds]
          rcases hce with ⟨rfl, rfl⟩ | ⟨rfl, rfl⟩ <;> omega
        rw [hg0] at hk ⊢
        have hd' : ∀ i, i < n → ((adv l 0).list.getD i default).deficit = 0 := fun i hi => by
          rw [adv_at (by rw [hJ.nn]; exact hi)]
          by_cases e2 : i = pos l
          · rw [if_pos e2]
          · rw [if_neg e2]; exact hJ.d i hi e2
        have hpa := adv_pos (d := 0) hr
        rw [hJ.nn] at hpa
        refine ⟨hk, by rw [adv_len]; exact hJ.nn, fun i hi => ?_, fun i hi => ?_, fun i hi _ => hd' i hi, .inl ⟨rfl, hd' _ (by rw [hpa]; exact Nat.mod_lt _ (by omega)), q + 1, ?_, ?_⟩⟩
        · rw [adv_at (by rw [hJ.nn]; exact hi)]
          by_cases e2 : i = pos l
          · rw [if_pos e2]; exact w1
          · rw [if_neg e2]; exact hJ.ww i hi
        · rw [adv_at (by rw [hJ.nn]; exact hi)]
          by_cases e2 : i = pos l
          · rw [if_pos e2]; have := hJ.cs i hi; rw [e2] at this; exact this
          · rw [if_neg e2]; exact hJ.cs i hi
        · rw [mq, hse, Nat.mul_add, Nat.mul_one]
        · rw [hpa, hq, Nat.mod_add_mod]
    · cases congrArg Prod.snd ht) (fun l hr hJ hne hd => by
    obtain ⟨hp, w1, l1, -, hh⟩ := hJ.cur hm
    have hmod : ∃ q s, s < e ∧ m = e * q + s ∧ pos l = q % n ∧ gv l = 4 - c * (s : Nat) := by
      rw [hh] at hd
      unfold gv at hd ⊢
      rw [w1] at hd ⊢
      rcases hJ.s with ⟨g, d0, q, mq, hq⟩ | ⟨g, q, s, s1, s2, mq, hq, ds⟩
      · rw [g, d0, if_neg (by decide)]
        exact ⟨q, 0, by rcases hce with ⟨rfl, rfl⟩ | ⟨rfl, rfl⟩ <;> omega, by omega, hq, by simp⟩
      · rw [g, if_pos rfl, ds] at hd
        rw [g, if_pos rfl, ds]
        exact ⟨q, s, by rcases hce with ⟨rfl, rfl⟩ | ⟨rfl, rfl⟩ <;> omega, mq, hq, rfl⟩
    obtain ⟨q, s, hs, mq, hq, hg⟩ := hmod
    have hdiv : m / e = q := by rw [mq, Nat.mul_add_div (by omega), Nat.div_eq_of_lt hs, Nat.add_zero]
    refine ⟨fun h58 => ?_, by rw [hdiv, ← hq]; exact hr.pos.2.symm, hh⟩
    have hdr : ¬ (S05.cur l).costs.drop 1 = [] := fun x => by
      have : ((S05.cur l).costs.drop 1).length = 0 := by rw [x]; rfl
      rw [List.length_drop] at this; omega
    have hrs := srv_right hr hne hd
    have hat : ∀ i, i < n → (srv l).list.getD i default = if i = pos l then ⟨(S05.cur l).weight, gv l - hd0 l, (S05.cur l).costs.drop 1⟩ else l.list.getD i default := fun i hi => by
      rw [srv_at (by rw [hJ.nn]; exact hi), if_neg hdr]
    refine ⟨hrs, by rw [srv_len]; exact hJ.nn, fun i hi => ?_, fun i hi => ?_, fun i hi hi2 => ?_, .inr ⟨rfl, q, s + 1, by omega, by omega, by omega, hq, ?_⟩⟩
    · rw [hat i hi]
      by_cases e2 : i = pos l
      · rw [if_pos e2]; exact w1
      · rw [if_neg e2]; exact hJ.ww i hi
    · rw [hat i hi]
      by_cases e2 : i = pos l
      · rw [if_pos e2]
        refine ⟨by show 60 ≤ ((S05.cur l).costs.drop 1).length + (m + 1); rw [List.length_drop]; omega, fun x hx => (hJ.cs _ hp).2 x (List.mem_of_mem_drop hx)⟩
      · rw [if_neg e2]; have := hJ.cs i hi; exact ⟨by omega, this.2⟩
    · have hi2 : i ≠ pos l := hi2
      rw [hat i hi, if_neg hi2]; exact hJ.d i hi hi2
    · have : S05.cur (srv l) = ⟨(S05.cur l).weight, gv l - hd0 l, (S05.cur l).costs.drop 1⟩ := by
        show (srv l).list.getD (pos l) default = _
        rw [hat _ hp, if_pos rfl]
      rw [this, hg, hh]
      rcases hce with ⟨rfl, rfl⟩ | ⟨rfl, rfl⟩
      · show (4 : Int) - 4 * (s : Nat) - 4 = _; push_cast; omega
      · show (4 : Int) - 2 * (s : Nat) - 2 = _; push_cast; omega) h.r hw h
  have e1 : nextL l = (nx l).1 := if_pos hok
  have e2 : nextC l = (nx l).2 := if_pos hok
  have e3 : nextA l = (nx l).1.at_ := if_pos hok
  rw [e1, e2, e3]
  exact ⟨hok, this.2.1, this.2.2.1, this.2.2.2⟩
end Lk.S05
namespace Lk.S05
open Go Lk Lk.C
def refB (l : Ls) (i : Nat) : Bool := decide (220 < (l.list.getD i default).costs.length)
def refOk (l : Ls) : Prop := l.list.length ≤ 20 ∧ fstN (refB l) l.list.length = l.list.length
instance (l : Ls) : Decidable (refOk l) := by unfold refOk; infer_instance
section
variable {P : Program} {F : Nat → Nat}
theorem rright_ok (hm : P.follows .mixedOrders = true) (hk : ref05_Right_k P F) (l : Ls) (hn : l.list.length ≤ 1000000) (hc : ∀ x ∈ l.list, x.costs.length ≤ 1000000) :
    FnOk P (F 82) [.many 3 (lsE l)] [.one (.im (.bool (decide (right l))))] := by
  refine fnOk hm hk ?_
  repeat' first | (with_reducible first | refine wkI ?_ | exact ⟨⟩ | refine wkB (fun _ => ?_) fun _ => ?_ | refine wkT (fun _ => ?_) ?_ | refine wkS ?_) | ((with_reducible refine wkC ?_ ?_); exact CEq.refl _) | ((with_reducible fail_if_success first | constructor | show False); conv => whnf)
  · rename_i h
    rw [decide_eq_false (fun x => by
      obtain ⟨⟨a, b⟩, ⟨c, d⟩, -⟩ := x
      simp only [Bool.or_eq_true, decide_eq_true_eq] at h; omega)]
    repeat' first | (with_reducible first | refine wkI ?_ | exact ⟨⟩ | refine wkB (fun _ => ?_) fun _ => ?_ | refine wkT (fun _ => ?_) ?_ | refine wkS ?_) | ((with_reducible refine wkC ?_ ?_); exact CEq.refl _) | ((with_reducible fail_if_success first | constructor | show False); conv => whnf)
  rename_i h
  simp only [Bool.or_eq_false_iff, decide_eq_false_iff_not] at h
  refine LoopVC.inv (fun i : Nat => i ≤ l.list.length ∧ ∀ k, k < i → okLn (mst l k) (l.list.getD k default)) (fun i => stL [(1, .va 1 0 0), (3, .c (.int .i64 i))]
    [(1, vE [.c (slL 3 lnE l.list), .c (.int .i64 l.at_), .c (.bool l.given)])]) (fun i => l.list.length - i) 0 ⟨Nat.zero_le _, fun k hk => by omega⟩ ?_ ?_
  · (refine Le.of ?_ ?_ <;> repeat' first | exact trivial | exact CEq.refl _ | exact rfl | exact cI (by push_cast; first | rfl | omega) | exact SubE.dat fun _ _ _ _ => CEq.refl _ | refine SubE.varN ?_ | refine Exists.intro _ (And.intro rfl ?_) | refine And.intro ?_ ?_)
  rintro Q hQ i ⟨hi, hok⟩
  repeat' first | (with_reducible first | refine wkI ?_ | exact ⟨⟩ | refine wkB (fun _ => ?_) fun _ => ?_ | refine wkT (fun _ => ?_) ?_ | refine wkS ?_) | ((with_reducible refine wkC ?_ ?_); exact CEq.refl _) | ((with_reducible fail_if_success first | constructor | show False); conv => whnf)
  · rename_i h3 h4 h5
    have h3 : (i : Int) < l.list.length := of_decide_eq_true h3
    have hm0 : mst l i = 39 := if_pos (by simp at h4; exact ⟨h4.2.symm, h4.1⟩)
    rw [Int.toNat_natCast] at *
    simp only [Bool.or_eq_true, Bool.or_eq_false_iff, decide_eq_true_eq, decide_eq_false_iff_not] at h5
    refine Out.mk (hQ _ _ ?_)
    rw [decide_eq_false (fun x => by
      obtain ⟨⟨a1, a2⟩, ⟨b1, b2⟩, a3, -⟩ := x.2.2 i (by omega)
      omega)]
    repeat' first | (with_reducible first | refine wkI ?_ | exact ⟨⟩ | refine wkB (fun _ => ?_) fun _ => ?_ | refine wkT (fun _ => ?_) ?_ | refine wkS ?_) | ((with_reducible refine wkC ?_ ?_); exact CEq.refl _) | ((with_reducible fail_if_success first | constructor | show False); conv => whnf)
  · rename_i h3 h4 h5
    have h3 : (i : Int) < l.list.length := of_decide_eq_true h3
    have hm0 : mst l i = 39 := if_pos (by simp at h4; exact ⟨h4.2.symm, h4.1⟩)
    rw [Int.toNat_natCast] at *
    simp only [Bool.or_eq_true, Bool.or_eq_false_iff, decide_eq_true_eq, decide_eq_false_iff_not] at h5
    refine LoopVC.inv (fun k : Nat => k ≤ (l.list.getD i default).costs.length ∧ ∀ j, j < k → 1 ≤ (l.list.getD i default).costs.getD j default ∧ (l.list.getD i default).costs.getD j default ≤ 8) (fun k => stL [(1, .va 1 0 0), (3, .c (.int .i64 i)), (4, .va 4 0 0), (6, .c (.int .i64 k))]
      [(1, vE [.c (slL 3 lnE l.list), .c (.int .i64 l.at_), .c (.bool l.given)]), (4, vE [.c (.int .i64 (l.list.getD i default).weight), .c (.int .i64 (l.list.getD i default).deficit), .c (slL 1 intE (l.list.getD i default).costs)])]) (fun k => (l.list.getD i default).costs.length - k) 0 ⟨Nat.zero_le _, fun j hj => by omega⟩ ?_ ?_
    · (refine Le.of ?_ ?_ <;> repeat' first | exact trivial | exact CEq.refl _ | exact rfl | exact cI (by push_cast; first | rfl | omega) | exact SubE.dat fun _ _ _ _ => CEq.refl _ | refine SubE.varN ?_ | refine Exists.intro _ (And.intro rfl ?_) | refine And.intro ?_ ?_)
    rintro Q2 hQ2 k ⟨hk, hkc⟩
    repeat' first | (with_reducible first | refine wkI ?_ | exact ⟨⟩ | refine wkB (fun _ => ?_) fun _ => ?_ | refine wkT (fun _ => ?_) ?_ | refine wkS ?_) | ((with_reducible refine wkC ?_ ?_); exact CEq.refl _) | ((with_reducible fail_if_success first | constructor | show False); conv => whnf)
    · rename_i h7 h8
      have h7 : (k : Int) < (l.list.getD i default).costs.length := of_decide_eq_true h7
      refine Out.mk (hQ2 _ _ ?_)
      refine Out.mk (hQ _ _ ?_)
      rw [decide_eq_false (fun x => by
        obtain ⟨-, -, -, a⟩ := x.2.2 i (by omega)
        have := a _ (getD_mem (show k < (l.list.getD i default).costs.length by omega))
        rw [Int.toNat_natCast] at h8
        simp only [Bool.or_eq_true, decide_eq_true_eq] at h8; omega)]
      repeat' first | (with_reducible first | refine wkI ?_ | exact ⟨⟩ | refine wkB (fun _ => ?_) fun _ => ?_ | refine wkT (fun _ => ?_) ?_ | refine wkS ?_) | ((with_reducible refine wkC ?_ ?_); exact CEq.refl _) | ((with_reducible fail_if_success first | constructor | show False); conv => whnf)
    · rename_i h7 h8
      have h7 : (k : Int) < (l.list.getD i default).costs.length := of_decide_eq_true h7
      rw [Int.toNat_natCast] at h8
      simp only [Bool.or_eq_false_iff, decide_eq_false_iff_not] at h8
      refine LoopEnd.mk ⟨k + 1, ⟨by omega, fun j hj => ?_⟩, by omega, by (refine Le.of ?_ ?_ <;> repeat' first | exact trivial | exact CEq.refl _ | exact rfl | exact cI (by push_cast; first | rfl | omega) | exact SubE.dat fun _ _ _ _ => CEq.refl _ | refine SubE.varN ?_ | refine Exists.intro _ (And.intro rfl ?_) | refine And.intro ?_ ?_)⟩
      rcases Nat.lt_or_ge j k with h9 | h9
      · exact hkc j h9
      · obtain rfl : j = k := by omega
        omega
    · rename_i h7
      have h7 : ¬ (k : Int) < (l.list.getD i default).costs.length := of_decide_eq_false h7
      refine Out.mk (hQ2 _ _ ?_)
      repeat' first | (with_reducible first | refine wkI ?_ | exact ⟨⟩ | refine wkB (fun _ => ?_) fun _ => ?_ | refine wkT (fun _ => ?_) ?_ | refine wkS ?_) | ((with_reducible refine wkC ?_ ?_); exact CEq.refl _) | ((with_reducible fail_if_success first | constructor | show False); conv => whnf)
      refine LoopEnd.mk ⟨i + 1, ⟨by omega, fun j hj => ?_⟩, by omega, by (refine Le.of ?_ ?_ <;> repeat' first | exact trivial | exact CEq.refl _ | exact rfl | exact cI (by push_cast; first | rfl | omega) | exact SubE.dat fun _ _ _ _ => CEq.refl _ | refine SubE.varN ?_ | refine Exists.intro _ (And.intro rfl ?_) | refine And.intro ?_ ?_)⟩
      rcases Nat.lt_or_ge j i with h9 | h9
      · exact hok j h9
      · obtain rfl : j = i := by omega
        have hkl : k = (l.list.getD j default).costs.length := by omega
        rw [hm0]
        exact ⟨by omega, by omega, by omega, all_of_getD (by rw [← hkl]; exact hkc)⟩
  · rename_i h3 h4 h5
    have h3 : (i : Int) < l.list.length := of_decide_eq_true h3
    have hm0 : mst l i = 7 := if_neg (fun x => by rw [x.2, Bool.true_and] at h4; exact of_decide_eq_false h4 x.1.symm)
    rw [Int.toNat_natCast] at *
    simp only [Bool.or_eq_true, Bool.or_eq_false_iff, decide_eq_true_eq, decide_eq_false_iff_not] at h5
    refine Out.mk (hQ _ _ ?_)
    rw [decide_eq_false (fun x => by
      obtain ⟨⟨a1, a2⟩, ⟨b1, b2⟩, a3, -⟩ := x.2.2 i (by omega)
      omega)]
    repeat' first | (with_reducible first | refine wkI ?_ | exact ⟨⟩ | refine wkB (fun _ => ?_) fun _ => ?_ | refine wkT (fun _ => ?_) ?_ | refine wkS ?_) | ((with_reducible refine wkC ?_ ?_); exact CEq.refl _) | ((with_reducible fail_if_success first | constructor | show False); conv => whnf)
  · rename_i h3 h4 h5
    have h3 : (i : Int) < l.list.length := of_decide_eq_true h3
    have hm0 : mst l i = 7 := if_neg (fun x => by rw [x.2, Bool.true_and] at h4; exact of_decide_eq_false h4 x.1.symm)
    rw [Int.toNat_natCast] at *
    simp only [Bool.or_eq_true, Bool.or_eq_false_iff, decide_eq_true_eq, decide_eq_false_iff_not] at h5
    refine LoopVC.inv (fun k : Nat => k ≤ (l.list.getD i default).costs.length ∧ ∀ j, j < k → 1 ≤ (l.list.getD i default).costs.getD j default ∧ (l.list.getD i default).costs.getD j default ≤ 8) (fun k => stL [(1, .va 1 0 0), (3, .c (.int .i64 i)), (4, .va 4 0 0), (6, .c (.int .i64 k))]
      [(1, vE [.c (slL 3 lnE l.list), .c (.int .i64 l.at_), .c (.bool l.given)]), (4, vE [.c (.int .i64 (l.list.getD i default).weight), .c (.int .i64 (l.list.getD i default).deficit), .c (slL 1 intE (l.list.getD i default).costs)])]) (fun k => (l.list.getD i default).costs.length - k) 0 ⟨Nat.zero_le _, fun j hj => by omega⟩ ?_ ?_
    · (refine Le.of ?_ ?_ <;> repeat' first | exact trivial | exact CEq.refl _ | exact rfl | exact cI (by push_cast; first | rfl | omega) | exact SubE.dat fun _ _ _ _ => CEq.refl _ | refine SubE.varN ?_ | refine Exists.intro _ (And.intro rfl ?_) | refine And.intro ?_ ?_)
    rintro Q2 hQ2 k ⟨hk, hkc⟩
    repeat' first | (with_reducible first | refine wkI ?_ | exact ⟨⟩ | refine wkB (fun _ => ?_) fun _ => ?_ | refine wkT (fun _ => ?_) ?_ | refine wkS ?_) | ((with_reducible refine wkC ?_ ?_); exact CEq.refl _) | ((with_reducible fail_if_success first | constructor | show False); conv => whnf)
    · rename_i h7 h8
      have h7 : (k : Int) < (l.list.getD i default).costs.length := of_decide_eq_true h7
      refine Out.mk (hQ2 _ _ ?_)
      refine Out.mk (hQ _ _ ?_)
      rw [decide_eq_false (fun x => by
        obtain ⟨-, -, -, a⟩ := x.2.2 i (by omega)
        have := a _ (getD_mem (show k < (l.list.getD i default).costs.length by omega))
        rw [Int.toNat_natCast] at h8
        simp only [Bool.or_eq_true, decide_eq_true_eq] at h8; omega)]
      repeat' first | (with_reducible first | refine wkI ?_ | exact ⟨⟩ | refine wkB (fun _ => ?_) fun _ => ?_ | refine wkT (fun _ => ?_) ?_ | refine wkS ?_) | ((with_reducible refine wkC ?_ ?_); exact CEq.refl _) | ((with_reducible fail_if_success first | constructor | show False); conv => whnf)
    · rename_i h7 h8
      have h7 : (k : Int) < (l.list.getD i default).costs.length := of_decide_eq_true h7
      rw [Int.toNat_natCast] at h8
      simp only [Bool.or_eq_false_iff, decide_eq_false_iff_not] at h8
      refine LoopEnd.mk ⟨k + 1, ⟨by omega, fun j hj => ?_⟩, by omega, by (refine Le.of ?_ ?_ <;> repeat' first | exact trivial | exact CEq.refl _ | exact rfl | exact cI (by push_cast; first | rfl | omega) | exact SubE.dat fun _ _ _ _ => CEq.refl _ | refine SubE.varN ?_ | refine Exists.intro _ (And.intro rfl ?_) | refine And.intro ?_ ?_)⟩
      rcases Nat.lt_or_ge j k with h9 | h9
      · exact hkc j h9
      · obtain rfl : j = k := by omega
        omega
    · rename_i h7
      have h7 : ¬ (k : Int) < (l.list.getD i default).costs.length := of_decide_eq_false h7
      refine Out.mk (hQ2 _ _ ?_)
      repeat' first | (with_reducible first | refine wkI ?_ | exact ⟨⟩ | refine wkB (fun _ => ?_) fun _ => ?_ | refine wkT (fun _ => ?_) ?_ | refine wkS ?_) | ((with_reducible refine wkC ?_ ?_); exact CEq.refl _) | ((with_reducible fail_if_success first | constructor | show False); conv => whnf)
      refine LoopEnd.mk ⟨i + 1, ⟨by omega, fun j hj => ?_⟩, by omega, by (refine Le.of ?_ ?_ <;> repeat' first | exact trivial | exact CEq.refl _ | exact rfl | exact cI (by push_cast; first | rfl | omega) | exact SubE.dat fun _ _ _ _ => CEq.refl _ | refine SubE.varN ?_ | refine Exists.intro _ (And.intro rfl ?_) | refine And.intro ?_ ?_)⟩
      rcases Nat.lt_or_ge j i with h9 | h9
      · exact hok j h9
      · obtain rfl : j = i := by omega
        have hkl : k = (l.list.getD j default).costs.length := by omega
        rw [hm0]
        exact ⟨by omega, by omega, by omega, all_of_getD (by rw [← hkl]; exact hkc)⟩
  · rename_i h3
    have h3 : ¬ (i : Int) < l.list.length := of_decide_eq_false h3
    refine Out.mk (hQ _ _ ?_)
    rw [decide_eq_true ⟨⟨by omega, by omega⟩, ⟨by omega, by omega⟩, fun k hk => hok k (by omega)⟩]
    repeat' first | (with_reducible first | refine wkI ?_ | exact ⟨⟩ | refine wkB (fun _ => ?_) fun _ => ?_ | refine wkT (fun _ => ?_) ?_ | refine wkS ?_) | ((with_reducible refine wkC ?_ ?_); exact CEq.refl _) | ((with_reducible fail_if_success first | constructor | show False); conv => whnf)
end
end Lk.S05
namespace Lk.S05
open Go Lk Lk.C
theorem Ls.ext' {a b : Ls} (h1 : a.list.length = b.list.length) (h2 : a.at_ = b.at_) (h3 : a.given = b.given) (h4 : ∀ i, i < a.list.length → a.list.getD i default = b.list.getD i default) : a = b := by
  cases a; cases b
  obtain rfl := h2
  obtain rfl := h3
  congr 1
  refine List.ext_getElem h1 fun i x y => ?_
  have := h4 i x
  rw [getD_eq x, getD_eq y] at this; exact this
theorem Ln.ext' {a b : Ln} (h1 : a.weight = b.weight) (h2 : a.deficit = b.deficit) (h3 : a.costs.length = b.costs.length) (h4 : ∀ i, i < a.costs.length → a.costs.getD i default = b.costs.getD i default) : a = b := by
  cases a; cases b
  obtain rfl := h1
  obtain rfl := h2
  congr 1
  refine List.ext_getElem h3 fun i x y => ?_
  have := h4 i x
  rw [getD_eq x, getD_eq y] at this; exact this
section
variable {P : Program} {F : Nat → Nat}
theorem rsame_ok (hm : P.follows .mixedOrders = true) (hk : ref05_Same_k P F) (a b : Ls) (hn : a.list.length ≤ 1000000) (hc : ∀ x ∈ a.list, x.costs.length ≤ 1000000) :
    FnOk P (F 83) [.many 3 (lsE a), .many 3 (lsE b)] [.one (.im (.bool (decide (a = b))))] := by
  refine fnOk hm hk ?_
  repeat' first | (with_reducible first | refine wkI ?_ | exact ⟨⟩ | refine wkB (fun _ => ?_) fun _ => ?_ | refine wkT (fun _ => ?_) ?_ | refine wkS ?_) | ((with_reducible refine wkC ?_ ?_); exact CEq.refl _) | ((with_reducible fail_if_success first | constructor | show False); conv => whnf)
  · rename_i h
    rw [decide_eq_false (fun x : a = b => by rw [x] at h; simp at h)]
    repeat' first | (with_reducible first | refine wkI ?_ | exact ⟨⟩ | refine wkB (fun _ => ?_) fun _ => ?_ | refine wkT (fun _ => ?_) ?_ | refine wkS ?_) | ((with_reducible refine wkC ?_ ?_); exact CEq.refl _) | ((with_reducible fail_if_success first | constructor | show False); conv => whnf)
  rename_i h
  simp only [Bool.or_eq_false_iff, Bool.not_eq_false', decide_eq_true_eq] at h
  obtain ⟨⟨q1, q2⟩, q3⟩ := h
  have q1 : a.list.length = b.list.length := by omega
  have q3 : a.given = b.given := by simpa using q3
  refine LoopVC.inv (fun i : Nat => i ≤ a.list.length ∧ ∀ k, k < i → a.list.getD k default = b.list.getD k default) (fun i => stL [(2, .va 2 0 0), (3, .va 3 0 0), (5, .c (.int .i64 i))]
    [(2, vE [.c (slL 3 lnE a.list), .c (.int .i64 a.at_), .c (.bool a.given)]), (3, vE [.c (slL 3 lnE b.list), .c (.int .i64 b.at_), .c (.bool b.given)])]) (fun i => a.list.length - i) 0 ⟨Nat.zero_le _, fun k hk => by omega⟩ ?_ ?_
  · (refine Le.of ?_ ?_ <;> repeat' first | exact trivial | exact CEq.refl _ | exact rfl | exact cI (by push_cast; first | rfl | omega) | exact SubE.dat fun _ _ _ _ => CEq.refl _ | refine SubE.varN ?_ | refine Exists.intro _ (And.intro rfl ?_) | refine And.intro ?_ ?_)
  rintro Q hQ i ⟨hi, hok⟩
  repeat' first | (with_reducible first | refine wkI ?_ | exact ⟨⟩ | refine wkB (fun _ => ?_) fun _ => ?_ | refine wkT (fun _ => ?_) ?_ | refine wkS ?_) | ((with_reducible refine wkC ?_ ?_); exact CEq.refl _) | ((with_reducible fail_if_success first | constructor | show False); conv => whnf)
  · rename_i h3 h4
    have h3 : i < a.list.length := by have := of_decide_eq_true h3; omega
    refine Out.mk (hQ _ _ ?_)
    rw [decide_eq_false (fun x : a = b => by rw [x] at h4; simp at h4)]
    repeat' first | (with_reducible first | refine wkI ?_ | exact ⟨⟩ | refine wkB (fun _ => ?_) fun _ => ?_ | refine wkT (fun _ => ?_) ?_ | refine wkS ?_) | ((with_reducible refine wkC ?_ ?_); exact CEq.refl _) | ((with_reducible fail_if_success first | constructor | show False); conv => whnf)
  · rename_i h3 h4
    have h3 : i < a.list.length := by have := of_decide_eq_true h3; omega
    simp only [Int.toNat_natCast, Bool.or_eq_false_iff, Bool.not_eq_false', decide_eq_true_eq] at h4
    obtain ⟨⟨r1, r2⟩, r3⟩ := h4
    have hcl := hc _ (getD_mem h3)
    refine LoopVC.inv (fun k : Nat => k ≤ (a.list.getD i default).costs.length ∧ ∀ j, j < k → (a.list.getD i default).costs.getD j default = (b.list.getD i default).costs.getD j default) (fun k => stL [(2, .va 2 0 0), (3, .va 3 0 0), (5, .c (.int .i64 i)), (6, .va 6 0 0), (7, .va 7 0 0), (8, .c (.int .i64 k))]
      [(2, vE [.c (slL 3 lnE a.list), .c (.int .i64 a.at_), .c (.bool a.given)]), (3, vE [.c (slL 3 lnE b.list), .c (.int .i64 b.at_), .c (.bool b.given)]), (6, vE [.c (.int .i64 (a.list.getD i default).weight), .c (.int .i64 (a.list.getD i default).deficit), .c (slL 1 intE (a.list.getD i default).costs)]), (7, vE [.c (.int .i64 (b.list.getD i default).weight), .c (.int .i64 (b.list.getD i default).deficit), .c (slL 1 intE (b.list.getD i default).costs)])]) (fun k => (a.list.getD i default).costs.length - k) 0 ⟨Nat.zero_le _, fun j hj => by omega⟩ ?_ ?_
    · (refine Le.of ?_ ?_ <;> repeat' first | exact trivial | exact CEq.refl _ | exact rfl | exact cI (by push_cast; first | rfl | omega) | exact SubE.dat fun _ _ _ _ => CEq.refl _ | refine SubE.varN ?_ | refine Exists.intro _ (And.intro rfl ?_) | refine And.intro ?_ ?_)
    rintro Q2 hQ2 k ⟨hk, hkc⟩
    repeat' first | (with_reducible first | refine wkI ?_ | exact ⟨⟩ | refine wkB (fun _ => ?_) fun _ => ?_ | refine wkT (fun _ => ?_) ?_ | refine wkS ?_) | ((with_reducible refine wkC ?_ ?_); exact CEq.refl _) | ((with_reducible fail_if_success first | constructor | show False); conv => whnf)
    · rename_i h7 h8
      refine Out.mk (hQ2 _ _ ?_)
      refine Out.mk (hQ _ _ ?_)
      rw [decide_eq_false (fun x : a = b => by rw [x] at h8; simp at h8)]
      repeat' first | (with_reducible first | refine wkI ?_ | exact ⟨⟩ | refine wkB (fun _ => ?_) fun _ => ?_ | refine wkT (fun _ => ?_) ?_ | refine wkS ?_) | ((with_reducible refine wkC ?_ ?_); exact CEq.refl _) | ((with_reducible fail_if_success first | constructor | show False); conv => whnf)
    · rename_i h7 h8
      have h7 : k < (a.list.getD i default).costs.length := by have := of_decide_eq_true h7; omega
      simp only [Int.toNat_natCast, Bool.not_eq_false', decide_eq_true_eq] at h8
      refine LoopEnd.mk ⟨k + 1, ⟨h7, fun j hj => ?_⟩, by omega, by (refine Le.of ?_ ?_ <;> repeat' first | exact trivial | exact CEq.refl _ | exact rfl | exact cI (by push_cast; first | rfl | omega) | exact SubE.dat fun _ _ _ _ => CEq.refl _ | refine SubE.varN ?_ | refine Exists.intro _ (And.intro rfl ?_) | refine And.intro ?_ ?_)⟩
      by_cases e : j = k
      · rw [e]; exact h8
      · exact hkc j (by omega)
    · rename_i h7
      have h7 : k = (a.list.getD i default).costs.length := by have := of_decide_eq_false h7; omega
      refine Out.mk (hQ2 _ _ ?_)
      repeat' first | (with_reducible first | refine wkI ?_ | exact ⟨⟩ | refine wkB (fun _ => ?_) fun _ => ?_ | refine wkT (fun _ => ?_) ?_ | refine wkS ?_) | ((with_reducible refine wkC ?_ ?_); exact CEq.refl _) | ((with_reducible fail_if_success first | constructor | show False); conv => whnf)
      refine LoopEnd.mk ⟨i + 1, ⟨by omega, fun j hj => ?_⟩, by omega, by (refine Le.of ?_ ?_ <;> repeat' first | exact trivial | exact CEq.refl _ | exact rfl | exact cI (by push_cast; first | rfl | omega) | exact SubE.dat fun _ _ _ _ => CEq.refl _ | refine SubE.varN ?_ | refine Exists.intro _ (And.intro rfl ?_) | refine And.intro ?_ ?_)⟩
      by_cases e : j = i
      · rw [e]; exact Ln.ext' r1 r2 (by omega) (by rw [← h7]; exact hkc)
      · exact hok j (by omega)
  · rename_i h3
    have h3 : i = a.list.length := by have := of_decide_eq_false h3; omega
    refine Out.mk (hQ _ _ ?_)
    rw [decide_eq_true (Ls.ext' q1 q2 q3 (by rw [← h3]; exact hok))]
    repeat' first | (with_reducible first | refine wkI ?_ | exact ⟨⟩ | refine wkB (fun _ => ?_) fun _ => ?_ | refine wkT (fun _ => ?_) ?_ | refine wkS ?_) | ((with_reducible refine wkC ?_ ?_); exact CEq.refl _) | ((with_reducible fail_if_success first | constructor | show False); conv => whnf)
end
end Lk.S05
