/-
  Gs05c: what these chapters need.
-/
import Derived.Test.YtegfifeichfclaaGs05b
set_option linter.unusedSimpArgs false
set_option linter.unusedVariables false
namespace Lk.S05
open Go Lk Lk.C
/-- Only one lane holds work. -/
structure AL (n k : Nat) (cs : List Int) (l : Ls) : Prop where
  r : right l
  nn : l.list.length = n
  kk : k < n
  cc : ∀ i, i < n → (l.list.getD i default).costs = if i = k then cs else []
variable {n k : Nat} {cs : List Int} {l : Ls}
theorem AL.waits (h : AL n k cs l) : waits l ↔ cs ≠ [] := by
  rw [← waits_fst, fstN_lt_iff]
  constructor
  · rintro ⟨i, hi, hb⟩ rfl
    have hb := of_decide_eq_true hb
    rw [h.cc i (by rw [← h.nn]; exact hi)] at hb
    split at hb <;> simp at hb
  · intro hc
    refine ⟨k, by rw [h.nn]; exact h.kk, decide_eq_true ?_⟩
    rw [h.cc k h.kk, if_pos rfl]
    exact List.length_pos_iff.2 hc
theorem AL.next (h : AL n k cs l) (hc : cs ≠ []) : nextOk l ∧ AL n k (cs.drop 1) (nextL l) ∧ nextA l = (k : Int) ∧ nextC l = cs.getD 0 default := by
  have hok : nextOk l := ⟨h.r, h.waits.2 hc⟩
  have := nx_ind (fun l => AL n k cs l) (fun l' c => AL n k (cs.drop 1) l' ∧ l'.at_ = (k : Int) ∧ c = cs.getD 0 default) (fun l m hr hw hJ ht => by
    have hm := (turn_none hr hw ht).1
    have ha : ∃ d, m = adv l d := by
      unfold turn at ht
      split at ht
      · exact ⟨_, (congrArg Prod.fst ht).symm⟩
      · split at ht
        · exact ⟨_, (congrArg Prod.fst ht).symm⟩
        · cases congrArg Prod.snd ht
    obtain ⟨d, rfl⟩ := ha
    refine ⟨hm, by rw [adv_len]; exact hJ.nn, hJ.kk, fun i hi => ?_⟩
    rw [adv_at (by rw [hJ.nn]; exact hi)]
    by_cases e : i = pos l
    · rw [if_pos e, ← hJ.cc i hi, e]; rfl
    · rw [if_neg e]; exact hJ.cc i hi) (fun l hr hJ hn hd => by
    have hp := hr.pos
    have hpn : pos l < n := by rw [← hJ.nn]; exact hp.1
    have hcp := hJ.cc (pos l) hpn
    have hk : pos l = k := Decidable.byContradiction fun x => hn (by show (l.list.getD (pos l) default).costs = []; rw [hcp, if_neg x])
    rw [if_pos hk] at hcp
    have hcu : (cur l).costs = cs := hcp
    refine ⟨⟨srv_right hr hn hd, by rw [srv_len]; exact hJ.nn, hJ.kk, fun i hi => ?_⟩, by rw [← hk]; exact hp.2.symm, by unfold hd0; rw [hcu]⟩
    rw [srv_at (by rw [hJ.nn]; exact hi), hcu]
    by_cases e : i = pos l
    · rw [if_pos e]; show cs.drop 1 = _; rw [if_pos (by omega)]
    · rw [if_neg e, if_neg (by omega), hJ.cc i hi, if_neg (by omega)]) h.r hok.2 h
  have e1 : nextL l = (nx l).1 := if_pos hok
  have e2 : nextC l = (nx l).2 := if_pos hok
  have e3 : nextA l = (nx l).1.at_ := if_pos hok
  rw [e1, e2, e3]
  exact ⟨hok, this.2.1, this.2.2.1, this.2.2.2⟩
theorem AL.push {c : Int} (h : AL n k cs l) (hc : 1 ≤ c ∧ c ≤ 8) (hl : cs.length < 200) : pushE l k c = 0 ∧ AL n k (cs ++ [c]) (pushL l k c) := by
  have hp : pushOk l k c := ⟨h.r, ⟨by omega, by rw [h.nn]; have := h.kk; omega⟩, hc.1, hc.2⟩
  have hck := h.cc k h.kk
  rw [if_pos rfl] at hck
  have he : pushE l k c = 0 := by
    unfold pushE; rw [if_pos hp, Int.toNat_natCast, hck, if_neg (by omega)]
  refine ⟨he, ?_⟩
  have e : pushL l k c = pushX l k c := by unfold pushL; rw [if_pos he, Int.toNat_natCast]
  rw [e]
  have hlen : (pushX l k c).list.length = l.list.length := List.length_set ..
  have hat : ∀ i, i < n → (pushX l k c).list.getD i default = if i = k then ⟨(l.list.getD k default).weight, (l.list.getD k default).deficit, (l.list.getD k default).costs ++ [c]⟩ else l.list.getD i default := fun i hi => setL_getD (by rw [h.nn]; exact hi)
  refine ⟨⟨by rw [hlen]; exact h.r.1, by rw [hlen]; exact h.r.2.1, fun i hi => ?_⟩, by rw [hlen]; exact h.nn, h.kk, fun i hi => ?_⟩
  · rw [hlen] at hi
    have hr := h.r.2.2 i hi
    have hm : mst (pushX l k c) i = mst l i := rfl
    rw [hm, hat i (by rw [← h.nn]; exact hi)]
    by_cases e : i = k
    · subst e
      rw [if_pos rfl]
      refine ⟨hr.1, hr.2.1, ?_, fun x hx => ?_⟩
      · show ((l.list.getD i default).costs ++ [c]).length ≤ 200
        rw [hck]; simp; omega
      · rcases List.mem_append.1 hx with hx | hx
        · exact hr.2.2.2 x hx
        · rw [List.mem_singleton.1 hx]; exact hc
    · rw [if_neg e]; exact hr
  · rw [hat i hi]
    by_cases e : i = k
    · rw [if_pos e, if_pos e, hck]
    · rw [if_neg e, if_neg e, h.cc i hi, if_neg e]
theorem AL.start {w : List Int} (hw : newOk w) (hk : k < w.length) : AL w.length k [] (newL w) := by
  have e := fl_new (costs := []) hw
  rw [e]
  refine ⟨fl_right hw (by omega), fl_len, hk, fun i hi => ?_⟩
  rw [fl_at hi]; unfold flL
  rw [if_neg (Nat.not_lt_zero i)]
  split <;> split <;> rfl
section
variable {P : Program} {F : Nat → Nat}
end
end Lk.S05
namespace Lk.S05
open Go Lk Lk.C
/-- While the lanes are filled. -/
structure EP (n : Nat) (c : Int) (i j : Nat) (l : Ls) : Prop where
  nn : l.list.length = n
  a0 : l.at_ = 0
  g0 : l.given = false
  ln : ∀ r, r < n → l.list.getD r default = ⟨1, 0, List.replicate (if r < i then 60 else if r = i then j else 0) c⟩
variable {n i j m e : Nat} {c : Int} {l : Ls}
theorem EP.right (h : EP n c i j l) (hn : 2 ≤ n ∧ n ≤ 6) (hc : 1 ≤ c ∧ c ≤ 8) (hj : j ≤ 60) : right l := by
  refine ⟨by rw [h.nn]; omega, by rw [h.nn, h.a0]; omega, fun r hr => ?_⟩
  rw [h.nn] at hr
  rw [h.ln r hr, show mst l r = 7 from if_neg fun x => by rw [h.g0] at x; exact absurd x.2 (by decide)]
  refine ⟨by show (1 : Int) ≤ 1 ∧ (1 : Int) ≤ 8; omega, by show (0 : Int) ≤ 0 ∧ (0 : Int) ≤ 7; omega, ?_, fun x hx => ?_⟩
  · show (List.replicate _ c).length ≤ 200
    rw [List.length_replicate]; split
    · decide
    · split <;> omega
  · rw [List.eq_of_mem_replicate hx]; exact hc
theorem EP.push (h : EP n c i j l) (hn : 2 ≤ n ∧ n ≤ 6) (hc : 1 ≤ c ∧ c ≤ 8) (hj : j < 60) (hi : i < n) : pushE l i c = 0 ∧ EP n c i (j + 1) (pushL l i c) := by
  have hp : pushOk l i c := ⟨h.right hn hc (by omega), ⟨by omega, by rw [h.nn]; omega⟩, hc.1, hc.2⟩
  have hck := h.ln i hi
  rw [if_neg (Nat.lt_irrefl i), if_pos rfl] at hck
  have he : pushE l i c = 0 := by
    unfold pushE; rw [if_pos hp, Int.toNat_natCast, hck]
    show (if (List.replicate j c).length ≥ 200 then (7 : Int) else 0) = 0
    rw [List.length_replicate, if_neg (by omega)]
  refine ⟨he, ?_⟩
  have e : pushL l i c = pushX l i c := by unfold pushL; rw [if_pos he, Int.toNat_natCast]
  rw [e]
  refine ⟨(List.length_set ..).trans h.nn, h.a0, h.g0, fun r hr => ?_⟩
  have : (pushX l i c).list.getD r default = if r = i then ⟨(l.list.getD i default).weight, (l.list.getD i default).deficit, (l.list.getD i default).costs ++ [c]⟩ else l.list.getD r default := setL_getD (by rw [h.nn]; exact hr)
  rw [this]
  by_cases e : r = i
  · rw [if_pos e, hck, if_neg (by omega), if_pos e, List.replicate_succ']
  · rw [if_neg e, h.ln r hr, if_neg e, if_neg e]
theorem EP.start (hn : 2 ≤ n ∧ n ≤ 6) : EP n c 0 0 (newL (List.replicate n 1)) ∧ newE (List.replicate n 1) = 0 := by
  have hw : newOk (List.replicate n (1 : Int)) := ⟨by rw [List.length_replicate]; omega, fun x hx => by rw [List.eq_of_mem_replicate hx]; omega⟩
  refine ⟨?_, if_pos hw⟩
  rw [show newL (List.replicate n 1) = ⟨(List.replicate n 1).map newLn, 0, false⟩ from if_pos hw]
  refine ⟨by simp, rfl, rfl, fun r hr => ?_⟩
  rw [getD_eq (by simpa using hr)]
  simp only [List.getElem_map, List.getElem_replicate]
  rw [if_neg (Nat.not_lt_zero r)]
  unfold newLn
  split <;> rfl
/-- While they are served. -/
structure JE (n : Nat) (c : Int) (e m : Nat) (l : Ls) : Prop where
  r : S05.right l
  nn : l.list.length = n
  ww : ∀ i, i < n → (l.list.getD i default).weight = 1
  cs : ∀ i, i < n → 60 ≤ (l.list.getD i default).costs.length + m ∧ ∀ x ∈ (l.list.getD i default).costs, x = c
  d : ∀ i, i < n → i ≠ pos l → (l.list.getD i default).deficit = 0
  s : (l.given = false ∧ (cur l).deficit = 0 ∧ ∃ q, m = e * q ∧ pos l = q % n) ∨ (l.given = true ∧ ∃ q s, 1 ≤ s ∧ s ≤ e ∧ m = e * q + s ∧ pos l = q % n ∧ (cur l).deficit = 4 - c * (s : Nat))
theorem JE.start (h : EP n c n 0 l) (hn : 2 ≤ n ∧ n ≤ 6) (hc : 1 ≤ c ∧ c ≤ 8) : JE n c e 0 l := by
  have hp : pos l = 0 := by unfold pos; rw [h.a0]; rfl
  refine ⟨h.right hn hc (by omega), h.nn, fun i hi => by rw [h.ln i hi], fun i hi => ?_, fun i hi _ => by rw [h.ln i hi], .inl ⟨h.g0, ?_, 0, rfl, by rw [hp, Nat.zero_mod]⟩⟩
  · rw [h.ln i hi, if_pos hi]
    exact ⟨by show 60 ≤ (List.replicate 60 c).length + 0; rw [List.length_replicate]; omega, fun x hx => List.eq_of_mem_replicate hx⟩
  · unfold cur; rw [hp, h.ln 0 (by omega)]
theorem JE.cur (h : JE n c e m l) (hm : m ≤ 59) : pos l < n ∧ (cur l).weight = 1 ∧ 60 ≤ (cur l).costs.length + m ∧ (cur l).costs ≠ [] ∧ hd0 l = c := by
  have hp : pos l < n := by rw [← h.nn]; exact h.r.pos.1
  have a := h.ww _ hp
  have b := h.cs _ hp
  have h60 : 60 ≤ (S05.cur l).costs.length + m := b.1
  have hne : (S05.cur l).costs ≠ [] := fun x => by rw [x] at h60; simp at h60; omega
  refine ⟨hp, a, h60, hne, ?_⟩
  unfold hd0
  exact b.2 _ (getD_mem (List.length_pos_iff.2 hne))
theorem JE.next (h : JE n c e m l) (hn : 2 ≤ n ∧ n ≤ 6) (hce : (c = 4 ∧ e = 1) ∨ (c = 2 ∧ e = 2)) (hm : m ≤ 59) : nextOk l ∧ (m ≤ 58 → JE n c e (m + 1) (nextL l)) ∧ nextA l = ((m / e % n : Nat) : Int) ∧ nextC l = c := by
  have hw : waits l := by
    rw [← waits_fst, fstN_lt_iff]
    obtain ⟨a, b, d, f, -⟩ := h.cur hm
    exact ⟨pos l, h.r.pos.1, decide_eq_true (List.length_pos_iff.2 f)⟩
  have hok : nextOk l := ⟨h.r, hw⟩
  have := nx_ind (fun l => JE n c e m l) (fun l' c' => (m ≤ 58 → JE n c e (m + 1) l') ∧ l'.at_ = ((m / e % n : Nat) : Int) ∧ c' = c) (fun l k hr hw hJ ht => by
    have hk := (turn_none hr hw ht).1
    obtain ⟨hp, w1, l1, hne, hh⟩ := hJ.cur hm
    unfold turn at ht
    rw [if_neg hne] at ht
    split at ht
    · rename_i hd
      obtain rfl : adv l (gv l) = k := congrArg Prod.fst ht
      rw [hh] at hd
      unfold gv at hd
      rw [w1] at hd
      rcases hJ.s with ⟨g, d0, -⟩ | ⟨g, q, s, s1, s2, mq, hq, ds⟩
      · rw [g, d0, if_neg (by decide)] at hd
        rcases hce with ⟨rfl, rfl⟩ | ⟨rfl, rfl⟩ <;> omega
      · rw [g, if_pos rfl, ds] at hd
        have hse : s = e := by rcases hce with ⟨rfl, rfl⟩ | ⟨rfl, rfl⟩ <;> omega
        have hg0 : gv l = 0 := by
          unfold gv; rw [g, if_pos rfl, ds]
          rcases hce with ⟨rfl, rfl⟩ | ⟨rfl, rfl⟩ <;> omega
        rw [hg0] at hk ⊢
        have hd' : ∀ i, i < n → ((adv l 0).list.getD i default).deficit = 0 := fun i hi => by
          rw [adv_at (by rw [hJ.nn]; exact hi)]
          by_cases e2 : i = pos l
          · rw [if_pos e2]
          · rw [if_neg e2]; exact hJ.d i hi e2
        have hpa := adv_pos (d := 0) hr
        rw [hJ.nn] at hpa
        refine ⟨hk, by rw [adv_len]; exact hJ.nn, fun i hi => ?_, fun i hi => ?_, fun i hi _ => hd' i hi, .inl ⟨rfl, hd' _ (by rw [hpa]; exact Nat.mod_lt _ (by omega)), q + 1, ?_, ?_⟩⟩
        · rw [adv_at (by rw [hJ.nn]; exact hi)]
          by_cases e2 : i = pos l
          · rw [if_pos e2]; exact w1
          · rw [if_neg e2]; exact hJ.ww i hi
        · rw [adv_at (by rw [hJ.nn]; exact hi)]
          by_cases e2 : i = pos l
          · rw [if_pos e2]; have := hJ.cs i hi; rw [e2] at this; exact this
          · rw [if_neg e2]; exact hJ.cs i hi
        · rw [mq, hse, Nat.mul_add, Nat.mul_one]
        · rw [hpa, hq, Nat.mod_add_mod]
    · cases congrArg Prod.snd ht) (fun l hr hJ hne hd => by
    obtain ⟨hp, w1, l1, -, hh⟩ := hJ.cur hm
    have hmod : ∃ q s, s < e ∧ m = e * q + s ∧ pos l = q % n ∧ gv l = 4 - c * (s : Nat) := by
      rw [hh] at hd
      unfold gv at hd ⊢
      rw [w1] at hd ⊢
      rcases hJ.s with ⟨g, d0, q, mq, hq⟩ | ⟨g, q, s, s1, s2, mq, hq, ds⟩
      · rw [g, d0, if_neg (by decide)]
        exact ⟨q, 0, by rcases hce with ⟨rfl, rfl⟩ | ⟨rfl, rfl⟩ <;> omega, by omega, hq, by simp⟩
      · rw [g, if_pos rfl, ds] at hd
        rw [g, if_pos rfl, ds]
        exact ⟨q, s, by rcases hce with ⟨rfl, rfl⟩ | ⟨rfl, rfl⟩ <;> omega, mq, hq, rfl⟩
    obtain ⟨q, s, hs, mq, hq, hg⟩ := hmod
    have hdiv : m / e = q := by rw [mq, Nat.mul_add_div (by omega), Nat.div_eq_of_lt hs, Nat.add_zero]
    refine ⟨fun h58 => ?_, by rw [hdiv, ← hq]; exact hr.pos.2.symm, hh⟩
    have hdr : ¬ (S05.cur l).costs.drop 1 = [] := fun x => by
      have : ((S05.cur l).costs.drop 1).length = 0 := by rw [x]; rfl
      rw [List.length_drop] at this; omega
    have hrs := srv_right hr hne hd
    have hat : ∀ i, i < n → (srv l).list.getD i default = if i = pos l then ⟨(S05.cur l).weight, gv l - hd0 l, (S05.cur l).costs.drop 1⟩ else l.list.getD i default := fun i hi => by
      rw [srv_at (by rw [hJ.nn]; exact hi), if_neg hdr]
    refine ⟨hrs, by rw [srv_len]; exact hJ.nn, fun i hi => ?_, fun i hi => ?_, fun i hi hi2 => ?_, .inr ⟨rfl, q, s + 1, by omega, by omega, by omega, hq, ?_⟩⟩
    · rw [hat i hi]
      by_cases e2 : i = pos l
      · rw [if_pos e2]; exact w1
      · rw [if_neg e2]; exact hJ.ww i hi
    · rw [hat i hi]
      by_cases e2 : i = pos l
      · rw [if_pos e2]
        refine ⟨by show 60 ≤ ((S05.cur l).costs.drop 1).length + (m + 1); rw [List.length_drop]; omega, fun x hx => (hJ.cs _ hp).2 x (List.mem_of_mem_drop hx)⟩
      · rw [if_neg e2]; have := hJ.cs i hi; exact ⟨by omega, this.2⟩
    · have hi2 : i ≠ pos l := hi2
      rw [hat i hi, if_neg hi2]; exact hJ.d i hi hi2
    · have : S05.cur (srv l) = ⟨(S05.cur l).weight, gv l - hd0 l, (S05.cur l).costs.drop 1⟩ := by
        show (srv l).list.getD (pos l) default = _
        rw [hat _ hp, if_pos rfl]
      rw [this, hg, hh]
      rcases hce with ⟨rfl, rfl⟩ | ⟨rfl, rfl⟩
      · show (4 : Int) - 4 * (s : Nat) - 4 = _; push_cast; omega
      · show (4 : Int) - 2 * (s : Nat) - 2 = _; push_cast; omega) h.r hw h
  have e1 : nextL l = (nx l).1 := if_pos hok
  have e2 : nextC l = (nx l).2 := if_pos hok
  have e3 : nextA l = (nx l).1.at_ := if_pos hok
  rw [e1, e2, e3]
  exact ⟨hok, this.2.1, this.2.2.1, this.2.2.2⟩
end Lk.S05
namespace Lk.S05
open Go Lk Lk.C
/-- The lanes as the reference takes them. -/
def refB (l : Ls) (i : Nat) : Bool := decide (220 < (l.list.getD i default).costs.length)
def refN (l : Ls) : Nat := if 20 < l.list.length then 0 else fstN (refB l) l.list.length
def refOk (l : Ls) : Prop := l.list.length ≤ 20 ∧ fstN (refB l) l.list.length = l.list.length
instance (l : Ls) : Decidable (refOk l) := by unfold refOk; infer_instance
def refL (l : Ls) : Ls := ⟨l.list.take (refN l), l.at_, l.given⟩
theorem refL_ok {l : Ls} (h : refOk l) : refL l = l := by
  unfold refL refN
  rw [if_neg (by have := h.1; omega), h.2, List.take_length]
section
variable {P : Program} {F : Nat → Nat}
set_option maxHeartbeats 8000000 in
set_option maxRecDepth 100000 in
theorem ref_ok (hm : P.follows .mixedOrders = true) (hk : law05_ref_k P F) (l : Ls) (hn : l.list.length ≤ 9223372036854775807) (hc : ∀ x ∈ l.list, x.costs.length ≤ 9223372036854775807) :
    FnOk P (F 80) [.many 3 (lsE l)] [.many 3 (fun j => .im (lsE (refL l) j)), .one (.im (.bool (decide (refOk l))))] := by
  refine fnOk hm hk ?_
  repeat' first
    | (with_reducible first | refine NeedI.mk (fun h => h) ?_ | refine NeedI.mk (fun h => h.2) ?_ | refine NeedI.mk (fun h => h.1) ?_ | exact Done.mk | refine Both.mk (fun _ => ?_) (fun _ => ?_) | refine Both2.mk (fun _ => ?_) ?_ | refine Need.mk (by first | omega | with_reducible exact CEq.refl _ | (dsimp only; omega) | (dsimp only [rng]; omega) | (simp only [decide_eq_true_eq, decide_eq_false_iff_not, Bool.or_eq_true, Bool.and_eq_true, Bool.or_eq_false_iff, Int.toNat_natCast, addN_eq, cond_false, cond_true, rng] at *; omega) | exact ⟨rfl, rfl⟩) ?_)
    | ((with_reducible refine Need.mk ?_ ?_); exact CEq.refl _)
    | ((with_reducible fail_if_success first | refine LoopVC.mk ?_ | refine Need.mk ?_ ?_ | refine CallVC.mk ?_ | refine LoopEnd.mk ?_ | refine Out.mk ?_ | show False | refine NeedI.mk ?_ ?_); conv => whnf)
  · rename_i h
    have h : 20 < l.list.length := by have := of_decide_eq_true h; omega
    have e : refL l = ⟨[], l.at_, l.given⟩ := by unfold refL refN; rw [if_pos h, List.take_zero]
    rw [e, decide_eq_false (fun x : refOk l => by have := x.1; omega)]
    refine Need.mk ceq_nil ?_
    repeat' first
      | (with_reducible first | refine NeedI.mk (fun h => h) ?_ | refine NeedI.mk (fun h => h.2) ?_ | refine NeedI.mk (fun h => h.1) ?_ | exact Done.mk | refine Both.mk (fun _ => ?_) (fun _ => ?_) | refine Both2.mk (fun _ => ?_) ?_ | refine Need.mk (by first | omega | with_reducible exact CEq.refl _ | (dsimp only; omega) | (dsimp only [rng]; omega) | (simp only [decide_eq_true_eq, decide_eq_false_iff_not, Bool.or_eq_true, Bool.and_eq_true, Bool.or_eq_false_iff, Int.toNat_natCast, addN_eq, cond_false, cond_true, rng] at *; omega) | exact ⟨rfl, rfl⟩) ?_)
      | ((with_reducible refine Need.mk ?_ ?_); exact CEq.refl _)
      | ((with_reducible fail_if_success first | refine LoopVC.mk ?_ | refine Need.mk ?_ ?_ | refine CallVC.mk ?_ | refine LoopEnd.mk ?_ | refine Out.mk ?_ | show False | refine NeedI.mk ?_ ?_); conv => whnf)
  rename_i h
  have h : ¬ 20 < l.list.length := by have := of_decide_eq_false h; omega
  refine LoopVC.inv (fun i : Nat => i ≤ l.list.length ∧ ∀ k, k < i → refB l k = false) (fun i => stL [(2, .va 2 0 0), (4, .va 4 0 0), (18, .c (slL 3 lnE l.list)), (19, .c (.int .i64 l.list.length)), (20, .c (.int .i64 i))]
    [(2, vE [.nil 3, .c (.int .i64 0), .c (.bool false)]), (4, vE [.os 33 0 3 0 i, .c (.int .i64 l.at_), .c (.bool l.given)]), (33, ⟨3, i, .dat fun r j => lnE (l.list.getD r default) j, false, true⟩)]) (fun i => l.list.length - i) 0 ⟨Nat.zero_le _, fun k hk => by omega⟩ ?_ ?_
  · (refine Le.ofN [33] ?_ ?_ <;> repeat' first | exact trivial | exact SubF.inr ⟨_, _, _, rfl, rfl, rfl⟩ | exact SubF.inl (cI (by push_cast; first | rfl | omega)) | exact SubF.inl (CEq.refl _) | exact SubF.inl rfl | exact SubF.inl trivial | exact SubF.inl ⟨rfl, rfl, rfl⟩ | exact SubF.inl ⟨rfl, rfl, rfl, rfl, rfl⟩ | exact Or.inl ⟨rfl, rfl⟩ | refine Or.inr ⟨rfl, _, rfl, ?_⟩ | refine SubEF.var2 ?_ ?_ | refine SubEF.var1 ?_ | refine SubEF.var3 ?_ ?_ ?_ | refine SubEF.var4 ?_ ?_ ?_ ?_ | exact SubEF.of (SubE.dat fun _ _ _ _ => CEq.refl _) | refine And.intro ?_ ?_ | refine SubF.frz rfl rfl rfl rfl (Nat.le_of_eq (Nat.zero_add _)) rfl rfl ?_)
  rintro Q hQ i ⟨hi, hb⟩
  have hsub : ∀ L : List Ln, L = l.list.take i → CEq (Cell.sl 3 i fun r j => lnE (l.list.getD r default) j) (slL 3 lnE L) := fun L hL => IsL.ceq (l := L) (fun r hr j hj => by
    subst hL
    have hr : r < i := by rw [List.length_take] at hr; omega
    rw [getD_eq (show r < l.list.length by omega), getD_eq (by rw [List.length_take]; omega), List.getElem_take]
    exact CEq.refl _) (by rw [hL, List.length_take]; omega)
  repeat' first
    | (with_reducible first | refine NeedI.mk (fun h => h) ?_ | refine NeedI.mk (fun h => h.2) ?_ | refine NeedI.mk (fun h => h.1) ?_ | exact Done.mk | refine Both.mk (fun _ => ?_) (fun _ => ?_) | refine Both2.mk (fun _ => ?_) ?_ | refine Need.mk (by first | omega | with_reducible exact CEq.refl _ | (dsimp only; omega) | (dsimp only [rng]; omega) | (simp only [decide_eq_true_eq, decide_eq_false_iff_not, Bool.or_eq_true, Bool.and_eq_true, Bool.or_eq_false_iff, Int.toNat_natCast, addN_eq, cond_false, cond_true, rng] at *; omega) | exact ⟨rfl, rfl⟩) ?_)
    | ((with_reducible refine Need.mk ?_ ?_); exact CEq.refl _)
    | ((with_reducible fail_if_success first | refine LoopVC.mk ?_ | refine Need.mk ?_ ?_ | refine CallVC.mk ?_ | refine LoopEnd.mk ?_ | refine Out.mk ?_ | show False | refine NeedI.mk ?_ ?_); conv => whnf)
  · rename_i h1 h2
    have h1 : i < l.list.length := by have := of_decide_eq_true h1; omega
    have h2 : refB l i = true := by have h2 := of_decide_eq_true h2; rw [Int.toNat_natCast] at h2; exact decide_eq_true (by omega)
    have hf : fstN (refB l) l.list.length = i := fstN_eq hi hb (fun _ => h2)
    have e : refL l = ⟨l.list.take i, l.at_, l.given⟩ := by unfold refL refN; rw [if_neg h, hf]
    refine Out.mk (hQ _ _ ?_)
    rw [e, decide_eq_false (fun x : refOk l => by have := x.2; omega)]
    have hsub := hsub _ rfl
    repeat' first
      | (with_reducible first | refine NeedI.mk (fun h => h) ?_ | refine NeedI.mk (fun h => h.2) ?_ | refine NeedI.mk (fun h => h.1) ?_ | exact Done.mk | refine Both.mk (fun _ => ?_) (fun _ => ?_) | refine Both2.mk (fun _ => ?_) ?_ | refine Need.mk (by first | omega | with_reducible exact CEq.refl _ | (dsimp only; omega) | (dsimp only [rng]; omega) | (simp only [decide_eq_true_eq, decide_eq_false_iff_not, Bool.or_eq_true, Bool.and_eq_true, Bool.or_eq_false_iff, Int.toNat_natCast, addN_eq, cond_false, cond_true, rng] at *; omega) | exact ⟨rfl, rfl⟩) ?_)
      | ((with_reducible refine Need.mk ?_ ?_); exact CEq.refl _)
      | ((with_reducible fail_if_success first | refine LoopVC.mk ?_ | refine Need.mk ?_ ?_ | refine CallVC.mk ?_ | refine LoopEnd.mk ?_ | refine Out.mk ?_ | show False | refine NeedI.mk ?_ ?_); conv => whnf)
    refine Need.mk (CEq.trans (CEq.slice fun r hr j hj => by show CEq (lnE (l.list.getD (addN 0 r) default) j) _; rw [addN_eq, Nat.zero_add]; exact CEq.refl _) hsub) ?_
    repeat' first
      | (with_reducible first | refine NeedI.mk (fun h => h) ?_ | refine NeedI.mk (fun h => h.2) ?_ | refine NeedI.mk (fun h => h.1) ?_ | exact Done.mk | refine Both.mk (fun _ => ?_) (fun _ => ?_) | refine Both2.mk (fun _ => ?_) ?_ | refine Need.mk (by first | omega | with_reducible exact CEq.refl _ | (dsimp only; omega) | (dsimp only [rng]; omega) | (simp only [decide_eq_true_eq, decide_eq_false_iff_not, Bool.or_eq_true, Bool.and_eq_true, Bool.or_eq_false_iff, Int.toNat_natCast, addN_eq, cond_false, cond_true, rng] at *; omega) | exact ⟨rfl, rfl⟩) ?_)
      | ((with_reducible refine Need.mk ?_ ?_); exact CEq.refl _)
      | ((with_reducible fail_if_success first | refine LoopVC.mk ?_ | refine Need.mk ?_ ?_ | refine CallVC.mk ?_ | refine LoopEnd.mk ?_ | refine Out.mk ?_ | show False | refine NeedI.mk ?_ ?_); conv => whnf)
  · rename_i h1 h2
    have h1 : i < l.list.length := by have := of_decide_eq_true h1; omega
    have h2 : refB l i = false := by have h2 := of_decide_eq_false h2; rw [Int.toNat_natCast] at h2; exact decide_eq_false (by omega)
    refine LoopEnd.mk ⟨i + 1, ⟨h1, fun k hk => ?_⟩, by omega, ?_⟩
    · by_cases e : k = i
      · rw [e]; exact h2
      · exact hb k (by omega)
    (refine Le.of ?_ ?_ <;> repeat' first | exact trivial | exact CEq.refl _ | exact rfl | exact cI (by push_cast; first | rfl | omega) | exact SubE.dat fun _ _ _ _ => CEq.refl _ | refine SubE.var2 ?_ ?_ | refine SubE.var1 ?_ | refine SubE.var3 ?_ ?_ ?_ | refine SubE.var4 ?_ ?_ ?_ ?_ | refine SubE.var5 ?_ ?_ ?_ ?_ ?_ | refine Exists.intro _ (And.intro rfl ?_) | refine And.intro ?_ ?_)
    refine SubE.dat fun r hr j hj => ?_
    have hr : r < i + 1 := hr
    rw [appC_at]
    by_cases e : i ≤ r
    · rw [if_pos e]
      obtain rfl : r = i := by omega
      rw [Nat.sub_self]
      have hj : j < 3 := hj
      rcases (show j = 0 ∨ j = 1 ∨ j = 2 by omega) with rfl | rfl | rfl <;> exact CEq.refl _
    · rw [if_neg e]; exact CEq.refl _
  · rename_i h1
    have h1 : i = l.list.length := by have := of_decide_eq_false h1; omega
    have hf : fstN (refB l) l.list.length = l.list.length := fstN_eq (Nat.le_refl _) (fun j hj => hb j (by omega)) (fun x => by omega)
    have ho : refOk l := ⟨by omega, hf⟩
    refine Out.mk (hQ _ _ ?_)
    rw [refL_ok ho, decide_eq_true ho]
    have hsub := hsub l.list (by rw [h1, List.take_length])
    repeat' first
      | (with_reducible first | refine NeedI.mk (fun h => h) ?_ | refine NeedI.mk (fun h => h.2) ?_ | refine NeedI.mk (fun h => h.1) ?_ | exact Done.mk | refine Both.mk (fun _ => ?_) (fun _ => ?_) | refine Both2.mk (fun _ => ?_) ?_ | refine Need.mk (by first | omega | with_reducible exact CEq.refl _ | (dsimp only; omega) | (dsimp only [rng]; omega) | (simp only [decide_eq_true_eq, decide_eq_false_iff_not, Bool.or_eq_true, Bool.and_eq_true, Bool.or_eq_false_iff, Int.toNat_natCast, addN_eq, cond_false, cond_true, rng] at *; omega) | exact ⟨rfl, rfl⟩) ?_)
      | ((with_reducible refine Need.mk ?_ ?_); exact CEq.refl _)
      | ((with_reducible fail_if_success first | refine LoopVC.mk ?_ | refine Need.mk ?_ ?_ | refine CallVC.mk ?_ | refine LoopEnd.mk ?_ | refine Out.mk ?_ | show False | refine NeedI.mk ?_ ?_); conv => whnf)
    refine Need.mk (CEq.trans (CEq.slice fun r hr j hj => by show CEq (lnE (l.list.getD (addN 0 r) default) j) _; rw [addN_eq, Nat.zero_add]; exact CEq.refl _) hsub) ?_
    repeat' first
      | (with_reducible first | refine NeedI.mk (fun h => h) ?_ | refine NeedI.mk (fun h => h.2) ?_ | refine NeedI.mk (fun h => h.1) ?_ | exact Done.mk | refine Both.mk (fun _ => ?_) (fun _ => ?_) | refine Both2.mk (fun _ => ?_) ?_ | refine Need.mk (by first | omega | with_reducible exact CEq.refl _ | (dsimp only; omega) | (dsimp only [rng]; omega) | (simp only [decide_eq_true_eq, decide_eq_false_iff_not, Bool.or_eq_true, Bool.and_eq_true, Bool.or_eq_false_iff, Int.toNat_natCast, addN_eq, cond_false, cond_true, rng] at *; omega) | exact ⟨rfl, rfl⟩) ?_)
      | ((with_reducible refine Need.mk ?_ ?_); exact CEq.refl _)
      | ((with_reducible fail_if_success first | refine LoopVC.mk ?_ | refine Need.mk ?_ ?_ | refine CallVC.mk ?_ | refine LoopEnd.mk ?_ | refine Out.mk ?_ | show False | refine NeedI.mk ?_ ?_); conv => whnf)
set_option maxHeartbeats 8000000 in
set_option maxRecDepth 100000 in
theorem rright_ok (hm : P.follows .mixedOrders = true) (hk : ref05_Right_k P F) (l : Ls) (hn : l.list.length ≤ 1000000) (hc : ∀ x ∈ l.list, x.costs.length ≤ 1000000) :
    FnOk P (F 82) [.many 3 (lsE l)] [.one (.im (.bool (decide (right l))))] := by
  refine fnOk hm hk ?_
  repeat' first
    | (with_reducible first | refine NeedI.mk (fun h => h) ?_ | refine NeedI.mk (fun h => h.2) ?_ | refine NeedI.mk (fun h => h.1) ?_ | exact Done.mk | refine Both.mk (fun _ => ?_) (fun _ => ?_) | refine Both2.mk (fun _ => ?_) ?_ | refine Need.mk (by first | omega | with_reducible exact CEq.refl _ | (dsimp only; omega) | (dsimp only [rng]; omega) | (simp only [decide_eq_true_eq, decide_eq_false_iff_not, Bool.or_eq_true, Bool.and_eq_true, Bool.or_eq_false_iff, Int.toNat_natCast, addN_eq, cond_false, cond_true, rng] at *; omega) | exact ⟨rfl, rfl⟩) ?_)
    | ((with_reducible refine Need.mk ?_ ?_); exact CEq.refl _)
    | ((with_reducible fail_if_success first | refine LoopVC.mk ?_ | refine Need.mk ?_ ?_ | refine CallVC.mk ?_ | refine LoopEnd.mk ?_ | refine Out.mk ?_ | show False | refine NeedI.mk ?_ ?_); conv => whnf)
  · rename_i h
    rw [decide_eq_false (fun x => by
      obtain ⟨⟨a, b⟩, ⟨c, d⟩, -⟩ := x
      simp only [Bool.or_eq_true, decide_eq_true_eq] at h; omega)]
    repeat' first
      | (with_reducible first | refine NeedI.mk (fun h => h) ?_ | refine NeedI.mk (fun h => h.2) ?_ | refine NeedI.mk (fun h => h.1) ?_ | exact Done.mk | refine Both.mk (fun _ => ?_) (fun _ => ?_) | refine Both2.mk (fun _ => ?_) ?_ | refine Need.mk (by first | omega | with_reducible exact CEq.refl _ | (dsimp only; omega) | (dsimp only [rng]; omega) | (simp only [decide_eq_true_eq, decide_eq_false_iff_not, Bool.or_eq_true, Bool.and_eq_true, Bool.or_eq_false_iff, Int.toNat_natCast, addN_eq, cond_false, cond_true, rng] at *; omega) | exact ⟨rfl, rfl⟩) ?_)
      | ((with_reducible refine Need.mk ?_ ?_); exact CEq.refl _)
      | ((with_reducible fail_if_success first | refine LoopVC.mk ?_ | refine Need.mk ?_ ?_ | refine CallVC.mk ?_ | refine LoopEnd.mk ?_ | refine Out.mk ?_ | show False | refine NeedI.mk ?_ ?_); conv => whnf)
  rename_i h
  simp only [Bool.or_eq_false_iff, decide_eq_false_iff_not] at h
  refine LoopVC.inv (fun i : Nat => i ≤ l.list.length ∧ ∀ k, k < i → okLn (mst l k) (l.list.getD k default)) (fun i => stL [(1, .va 1 0 0), (3, .c (.int .i64 i))]
    [(1, vE [.c (slL 3 lnE l.list), .c (.int .i64 l.at_), .c (.bool l.given)])]) (fun i => l.list.length - i) 0 ⟨Nat.zero_le _, fun k hk => by omega⟩ ?_ ?_
  · (refine Le.of ?_ ?_ <;> repeat' first | exact trivial | exact CEq.refl _ | exact rfl | exact cI (by push_cast; first | rfl | omega) | exact SubE.dat fun _ _ _ _ => CEq.refl _ | refine SubE.var2 ?_ ?_ | refine SubE.var1 ?_ | refine SubE.var3 ?_ ?_ ?_ | refine SubE.var4 ?_ ?_ ?_ ?_ | refine SubE.var5 ?_ ?_ ?_ ?_ ?_ | refine Exists.intro _ (And.intro rfl ?_) | refine And.intro ?_ ?_)
  rintro Q hQ i ⟨hi, hok⟩
  repeat' first
    | (with_reducible first | refine NeedI.mk (fun h => h) ?_ | refine NeedI.mk (fun h => h.2) ?_ | refine NeedI.mk (fun h => h.1) ?_ | exact Done.mk | refine Both.mk (fun _ => ?_) (fun _ => ?_) | refine Both2.mk (fun _ => ?_) ?_ | refine Need.mk (by first | omega | with_reducible exact CEq.refl _ | (dsimp only; omega) | (dsimp only [rng]; omega) | (simp only [decide_eq_true_eq, decide_eq_false_iff_not, Bool.or_eq_true, Bool.and_eq_true, Bool.or_eq_false_iff, Int.toNat_natCast, addN_eq, cond_false, cond_true, rng] at *; omega) | exact ⟨rfl, rfl⟩) ?_)
    | ((with_reducible refine Need.mk ?_ ?_); exact CEq.refl _)
    | ((with_reducible fail_if_success first | refine LoopVC.mk ?_ | refine Need.mk ?_ ?_ | refine CallVC.mk ?_ | refine LoopEnd.mk ?_ | refine Out.mk ?_ | show False | refine NeedI.mk ?_ ?_); conv => whnf)
  · rename_i h3 h4 h5
    have h3 : (i : Int) < l.list.length := of_decide_eq_true h3
    have hm0 : mst l i = 39 := if_pos (by simp at h4; exact ⟨h4.2.symm, h4.1⟩)
    rw [Int.toNat_natCast] at *
    simp only [Bool.or_eq_true, Bool.or_eq_false_iff, decide_eq_true_eq, decide_eq_false_iff_not] at h5
    refine Out.mk (hQ _ _ ?_)
    rw [decide_eq_false (fun x => by
      obtain ⟨⟨a1, a2⟩, ⟨b1, b2⟩, a3, -⟩ := x.2.2 i (by omega)
      omega)]
    repeat' first
      | (with_reducible first | refine NeedI.mk (fun h => h) ?_ | refine NeedI.mk (fun h => h.2) ?_ | refine NeedI.mk (fun h => h.1) ?_ | exact Done.mk | refine Both.mk (fun _ => ?_) (fun _ => ?_) | refine Both2.mk (fun _ => ?_) ?_ | refine Need.mk (by first | omega | with_reducible exact CEq.refl _ | (dsimp only; omega) | (dsimp only [rng]; omega) | (simp only [decide_eq_true_eq, decide_eq_false_iff_not, Bool.or_eq_true, Bool.and_eq_true, Bool.or_eq_false_iff, Int.toNat_natCast, addN_eq, cond_false, cond_true, rng] at *; omega) | exact ⟨rfl, rfl⟩) ?_)
      | ((with_reducible refine Need.mk ?_ ?_); exact CEq.refl _)
      | ((with_reducible fail_if_success first | refine LoopVC.mk ?_ | refine Need.mk ?_ ?_ | refine CallVC.mk ?_ | refine LoopEnd.mk ?_ | refine Out.mk ?_ | show False | refine NeedI.mk ?_ ?_); conv => whnf)
  · rename_i h3 h4 h5
    have h3 : (i : Int) < l.list.length := of_decide_eq_true h3
    have hm0 : mst l i = 39 := if_pos (by simp at h4; exact ⟨h4.2.symm, h4.1⟩)
    rw [Int.toNat_natCast] at *
    simp only [Bool.or_eq_true, Bool.or_eq_false_iff, decide_eq_true_eq, decide_eq_false_iff_not] at h5
    refine LoopVC.inv (fun k : Nat => k ≤ (l.list.getD i default).costs.length ∧ ∀ j, j < k → 1 ≤ (l.list.getD i default).costs.getD j default ∧ (l.list.getD i default).costs.getD j default ≤ 8) (fun k => stL [(1, .va 1 0 0), (3, .c (.int .i64 i)), (4, .va 4 0 0), (6, .c (.int .i64 k))]
      [(1, vE [.c (slL 3 lnE l.list), .c (.int .i64 l.at_), .c (.bool l.given)]), (4, vE [.c (.int .i64 (l.list.getD i default).weight), .c (.int .i64 (l.list.getD i default).deficit), .c (slL 1 intE (l.list.getD i default).costs)])]) (fun k => (l.list.getD i default).costs.length - k) 0 ⟨Nat.zero_le _, fun j hj => by omega⟩ ?_ ?_
    · (refine Le.of ?_ ?_ <;> repeat' first | exact trivial | exact CEq.refl _ | exact rfl | exact cI (by push_cast; first | rfl | omega) | exact SubE.dat fun _ _ _ _ => CEq.refl _ | refine SubE.var2 ?_ ?_ | refine SubE.var1 ?_ | refine SubE.var3 ?_ ?_ ?_ | refine SubE.var4 ?_ ?_ ?_ ?_ | refine SubE.var5 ?_ ?_ ?_ ?_ ?_ | refine Exists.intro _ (And.intro rfl ?_) | refine And.intro ?_ ?_)
    rintro Q2 hQ2 k ⟨hk, hkc⟩
    repeat' first
      | (with_reducible first | refine NeedI.mk (fun h => h) ?_ | refine NeedI.mk (fun h => h.2) ?_ | refine NeedI.mk (fun h => h.1) ?_ | exact Done.mk | refine Both.mk (fun _ => ?_) (fun _ => ?_) | refine Both2.mk (fun _ => ?_) ?_ | refine Need.mk (by first | omega | with_reducible exact CEq.refl _ | (dsimp only; omega) | (dsimp only [rng]; omega) | (simp only [decide_eq_true_eq, decide_eq_false_iff_not, Bool.or_eq_true, Bool.and_eq_true, Bool.or_eq_false_iff, Int.toNat_natCast, addN_eq, cond_false, cond_true, rng] at *; omega) | exact ⟨rfl, rfl⟩) ?_)
      | ((with_reducible refine Need.mk ?_ ?_); exact CEq.refl _)
      | ((with_reducible fail_if_success first | refine LoopVC.mk ?_ | refine Need.mk ?_ ?_ | refine CallVC.mk ?_ | refine LoopEnd.mk ?_ | refine Out.mk ?_ | show False | refine NeedI.mk ?_ ?_); conv => whnf)
    · rename_i h7 h8
      have h7 : (k : Int) < (l.list.getD i default).costs.length := of_decide_eq_true h7
      refine Out.mk (hQ2 _ _ ?_)
      refine Out.mk (hQ _ _ ?_)
      rw [decide_eq_false (fun x => by
        obtain ⟨-, -, -, a⟩ := x.2.2 i (by omega)
        have := a _ (getD_mem (show k < (l.list.getD i default).costs.length by omega))
        rw [Int.toNat_natCast] at h8
        simp only [Bool.or_eq_true, decide_eq_true_eq] at h8; omega)]
      repeat' first
        | (with_reducible first | refine NeedI.mk (fun h => h) ?_ | refine NeedI.mk (fun h => h.2) ?_ | refine NeedI.mk (fun h => h.1) ?_ | exact Done.mk | refine Both.mk (fun _ => ?_) (fun _ => ?_) | refine Both2.mk (fun _ => ?_) ?_ | refine Need.mk (by first | omega | with_reducible exact CEq.refl _ | (dsimp only; omega) | (dsimp only [rng]; omega) | (simp only [decide_eq_true_eq, decide_eq_false_iff_not, Bool.or_eq_true, Bool.and_eq_true, Bool.or_eq_false_iff, Int.toNat_natCast, addN_eq, cond_false, cond_true, rng] at *; omega) | exact ⟨rfl, rfl⟩) ?_)
        | ((with_reducible refine Need.mk ?_ ?_); exact CEq.refl _)
        | ((with_reducible fail_if_success first | refine LoopVC.mk ?_ | refine Need.mk ?_ ?_ | refine CallVC.mk ?_ | refine LoopEnd.mk ?_ | refine Out.mk ?_ | show False | refine NeedI.mk ?_ ?_); conv => whnf)
    · rename_i h7 h8
      have h7 : (k : Int) < (l.list.getD i default).costs.length := of_decide_eq_true h7
      rw [Int.toNat_natCast] at h8
      simp only [Bool.or_eq_false_iff, decide_eq_false_iff_not] at h8
      refine LoopEnd.mk ⟨k + 1, ⟨by omega, fun j hj => ?_⟩, by omega, by (refine Le.of ?_ ?_ <;> repeat' first | exact trivial | exact CEq.refl _ | exact rfl | exact cI (by push_cast; first | rfl | omega) | exact SubE.dat fun _ _ _ _ => CEq.refl _ | refine SubE.var2 ?_ ?_ | refine SubE.var1 ?_ | refine SubE.var3 ?_ ?_ ?_ | refine SubE.var4 ?_ ?_ ?_ ?_ | refine SubE.var5 ?_ ?_ ?_ ?_ ?_ | refine Exists.intro _ (And.intro rfl ?_) | refine And.intro ?_ ?_)⟩
      rcases Nat.lt_or_ge j k with h9 | h9
      · exact hkc j h9
      · obtain rfl : j = k := by omega
        omega
    · rename_i h7
      have h7 : ¬ (k : Int) < (l.list.getD i default).costs.length := of_decide_eq_false h7
      refine Out.mk (hQ2 _ _ ?_)
      repeat' first
        | (with_reducible first | refine NeedI.mk (fun h => h) ?_ | refine NeedI.mk (fun h => h.2) ?_ | refine NeedI.mk (fun h => h.1) ?_ | exact Done.mk | refine Both.mk (fun _ => ?_) (fun _ => ?_) | refine Both2.mk (fun _ => ?_) ?_ | refine Need.mk (by first | omega | with_reducible exact CEq.refl _ | (dsimp only; omega) | (dsimp only [rng]; omega) | (simp only [decide_eq_true_eq, decide_eq_false_iff_not, Bool.or_eq_true, Bool.and_eq_true, Bool.or_eq_false_iff, Int.toNat_natCast, addN_eq, cond_false, cond_true, rng] at *; omega) | exact ⟨rfl, rfl⟩) ?_)
        | ((with_reducible refine Need.mk ?_ ?_); exact CEq.refl _)
        | ((with_reducible fail_if_success first | refine LoopVC.mk ?_ | refine Need.mk ?_ ?_ | refine CallVC.mk ?_ | refine LoopEnd.mk ?_ | refine Out.mk ?_ | show False | refine NeedI.mk ?_ ?_); conv => whnf)
      refine LoopEnd.mk ⟨i + 1, ⟨by omega, fun j hj => ?_⟩, by omega, by (refine Le.of ?_ ?_ <;> repeat' first | exact trivial | exact CEq.refl _ | exact rfl | exact cI (by push_cast; first | rfl | omega) | exact SubE.dat fun _ _ _ _ => CEq.refl _ | refine SubE.var2 ?_ ?_ | refine SubE.var1 ?_ | refine SubE.var3 ?_ ?_ ?_ | refine SubE.var4 ?_ ?_ ?_ ?_ | refine SubE.var5 ?_ ?_ ?_ ?_ ?_ | refine Exists.intro _ (And.intro rfl ?_) | refine And.intro ?_ ?_)⟩
      rcases Nat.lt_or_ge j i with h9 | h9
      · exact hok j h9
      · obtain rfl : j = i := by omega
        have hkl : k = (l.list.getD j default).costs.length := by omega
        rw [hm0]
        exact ⟨by omega, by omega, by omega, all_of_getD (by rw [← hkl]; exact hkc)⟩
  · rename_i h3 h4 h5
    have h3 : (i : Int) < l.list.length := of_decide_eq_true h3
    have hm0 : mst l i = 7 := if_neg (fun x => by rw [x.2, Bool.true_and] at h4; exact of_decide_eq_false h4 x.1.symm)
    rw [Int.toNat_natCast] at *
    simp only [Bool.or_eq_true, Bool.or_eq_false_iff, decide_eq_true_eq, decide_eq_false_iff_not] at h5
    refine Out.mk (hQ _ _ ?_)
    rw [decide_eq_false (fun x => by
      obtain ⟨⟨a1, a2⟩, ⟨b1, b2⟩, a3, -⟩ := x.2.2 i (by omega)
      omega)]
    repeat' first
      | (with_reducible first | refine NeedI.mk (fun h => h) ?_ | refine NeedI.mk (fun h => h.2) ?_ | refine NeedI.mk (fun h => h.1) ?_ | exact Done.mk | refine Both.mk (fun _ => ?_) (fun _ => ?_) | refine Both2.mk (fun _ => ?_) ?_ | refine Need.mk (by first | omega | with_reducible exact CEq.refl _ | (dsimp only; omega) | (dsimp only [rng]; omega) | (simp only [decide_eq_true_eq, decide_eq_false_iff_not, Bool.or_eq_true, Bool.and_eq_true, Bool.or_eq_false_iff, Int.toNat_natCast, addN_eq, cond_false, cond_true, rng] at *; omega) | exact ⟨rfl, rfl⟩) ?_)
      | ((with_reducible refine Need.mk ?_ ?_); exact CEq.refl _)
      | ((with_reducible fail_if_success first | refine LoopVC.mk ?_ | refine Need.mk ?_ ?_ | refine CallVC.mk ?_ | refine LoopEnd.mk ?_ | refine Out.mk ?_ | show False | refine NeedI.mk ?_ ?_); conv => whnf)
  · rename_i h3 h4 h5
    have h3 : (i : Int) < l.list.length := of_decide_eq_true h3
    have hm0 : mst l i = 7 := if_neg (fun x => by rw [x.2, Bool.true_and] at h4; exact of_decide_eq_false h4 x.1.symm)
    rw [Int.toNat_natCast] at *
    simp only [Bool.or_eq_true, Bool.or_eq_false_iff, decide_eq_true_eq, decide_eq_false_iff_not] at h5
    refine LoopVC.inv (fun k : Nat => k ≤ (l.list.getD i default).costs.length ∧ ∀ j, j < k → 1 ≤ (l.list.getD i default).costs.getD j default ∧ (l.list.getD i default).costs.getD j default ≤ 8) (fun k => stL [(1, .va 1 0 0), (3, .c (.int .i64 i)), (4, .va 4 0 0), (6, .c (.int .i64 k))]
      [(1, vE [.c (slL 3 lnE l.list), .c (.int .i64 l.at_), .c (.bool l.given)]), (4, vE [.c (.int .i64 (l.list.getD i default).weight), .c (.int .i64 (l.list.getD i default).deficit), .c (slL 1 intE (l.list.getD i default).costs)])]) (fun k => (l.list.getD i default).costs.length - k) 0 ⟨Nat.zero_le _, fun j hj => by omega⟩ ?_ ?_
    · (refine Le.of ?_ ?_ <;> repeat' first | exact trivial | exact CEq.refl _ | exact rfl | exact cI (by push_cast; first | rfl | omega) | exact SubE.dat fun _ _ _ _ => CEq.refl _ | refine SubE.var2 ?_ ?_ | refine SubE.var1 ?_ | refine SubE.var3 ?_ ?_ ?_ | refine SubE.var4 ?_ ?_ ?_ ?_ | refine SubE.var5 ?_ ?_ ?_ ?_ ?_ | refine Exists.intro _ (And.intro rfl ?_) | refine And.intro ?_ ?_)
    rintro Q2 hQ2 k ⟨hk, hkc⟩
    repeat' first
      | (with_reducible first | refine NeedI.mk (fun h => h) ?_ | refine NeedI.mk (fun h => h.2) ?_ | refine NeedI.mk (fun h => h.1) ?_ | exact Done.mk | refine Both.mk (fun _ => ?_) (fun _ => ?_) | refine Both2.mk (fun _ => ?_) ?_ | refine Need.mk (by first | omega | with_reducible exact CEq.refl _ | (dsimp only; omega) | (dsimp only [rng]; omega) | (simp only [decide_eq_true_eq, decide_eq_false_iff_not, Bool.or_eq_true, Bool.and_eq_true, Bool.or_eq_false_iff, Int.toNat_natCast, addN_eq, cond_false, cond_true, rng] at *; omega) | exact ⟨rfl, rfl⟩) ?_)
      | ((with_reducible refine Need.mk ?_ ?_); exact CEq.refl _)
      | ((with_reducible fail_if_success first | refine LoopVC.mk ?_ | refine Need.mk ?_ ?_ | refine CallVC.mk ?_ | refine LoopEnd.mk ?_ | refine Out.mk ?_ | show False | refine NeedI.mk ?_ ?_); conv => whnf)
    · rename_i h7 h8
      have h7 : (k : Int) < (l.list.getD i default).costs.length := of_decide_eq_true h7
      refine Out.mk (hQ2 _ _ ?_)
      refine Out.mk (hQ _ _ ?_)
      rw [decide_eq_false (fun x => by
        obtain ⟨-, -, -, a⟩ := x.2.2 i (by omega)
        have := a _ (getD_mem (show k < (l.list.getD i default).costs.length by omega))
        rw [Int.toNat_natCast] at h8
        simp only [Bool.or_eq_true, decide_eq_true_eq] at h8; omega)]
      repeat' first
        | (with_reducible first | refine NeedI.mk (fun h => h) ?_ | refine NeedI.mk (fun h => h.2) ?_ | refine NeedI.mk (fun h => h.1) ?_ | exact Done.mk | refine Both.mk (fun _ => ?_) (fun _ => ?_) | refine Both2.mk (fun _ => ?_) ?_ | refine Need.mk (by first | omega | with_reducible exact CEq.refl _ | (dsimp only; omega) | (dsimp only [rng]; omega) | (simp only [decide_eq_true_eq, decide_eq_false_iff_not, Bool.or_eq_true, Bool.and_eq_true, Bool.or_eq_false_iff, Int.toNat_natCast, addN_eq, cond_false, cond_true, rng] at *; omega) | exact ⟨rfl, rfl⟩) ?_)
        | ((with_reducible refine Need.mk ?_ ?_); exact CEq.refl _)
        | ((with_reducible fail_if_success first | refine LoopVC.mk ?_ | refine Need.mk ?_ ?_ | refine CallVC.mk ?_ | refine LoopEnd.mk ?_ | refine Out.mk ?_ | show False | refine NeedI.mk ?_ ?_); conv => whnf)
    · rename_i h7 h8
      have h7 : (k : Int) < (l.list.getD i default).costs.length := of_decide_eq_true h7
      rw [Int.toNat_natCast] at h8
      simp only [Bool.or_eq_false_iff, decide_eq_false_iff_not] at h8
      refine LoopEnd.mk ⟨k + 1, ⟨by omega, fun j hj => ?_⟩, by omega, by (refine Le.of ?_ ?_ <;> repeat' first | exact trivial | exact CEq.refl _ | exact rfl | exact cI (by push_cast; first | rfl | omega) | exact SubE.dat fun _ _ _ _ => CEq.refl _ | refine SubE.var2 ?_ ?_ | refine SubE.var1 ?_ | refine SubE.var3 ?_ ?_ ?_ | refine SubE.var4 ?_ ?_ ?_ ?_ | refine SubE.var5 ?_ ?_ ?_ ?_ ?_ | refine Exists.intro _ (And.intro rfl ?_) | refine And.intro ?_ ?_)⟩
      rcases Nat.lt_or_ge j k with h9 | h9
      · exact hkc j h9
      · obtain rfl : j = k := by omega
        omega
    · rename_i h7
      have h7 : ¬ (k : Int) < (l.list.getD i default).costs.length := of_decide_eq_false h7
      refine Out.mk (hQ2 _ _ ?_)
      repeat' first
        | (with_reducible first | refine NeedI.mk (fun h => h) ?_ | refine NeedI.mk (fun h => h.2) ?_ | refine NeedI.mk (fun h => h.1) ?_ | exact Done.mk | refine Both.mk (fun _ => ?_) (fun _ => ?_) | refine Both2.mk (fun _ => ?_) ?_ | refine Need.mk (by first | omega | with_reducible exact CEq.refl _ | (dsimp only; omega) | (dsimp only [rng]; omega) | (simp only [decide_eq_true_eq, decide_eq_false_iff_not, Bool.or_eq_true, Bool.and_eq_true, Bool.or_eq_false_iff, Int.toNat_natCast, addN_eq, cond_false, cond_true, rng] at *; omega) | exact ⟨rfl, rfl⟩) ?_)
        | ((with_reducible refine Need.mk ?_ ?_); exact CEq.refl _)
        | ((with_reducible fail_if_success first | refine LoopVC.mk ?_ | refine Need.mk ?_ ?_ | refine CallVC.mk ?_ | refine LoopEnd.mk ?_ | refine Out.mk ?_ | show False | refine NeedI.mk ?_ ?_); conv => whnf)
      refine LoopEnd.mk ⟨i + 1, ⟨by omega, fun j hj => ?_⟩, by omega, by (refine Le.of ?_ ?_ <;> repeat' first | exact trivial | exact CEq.refl _ | exact rfl | exact cI (by push_cast; first | rfl | omega) | exact SubE.dat fun _ _ _ _ => CEq.refl _ | refine SubE.var2 ?_ ?_ | refine SubE.var1 ?_ | refine SubE.var3 ?_ ?_ ?_ | refine SubE.var4 ?_ ?_ ?_ ?_ | refine SubE.var5 ?_ ?_ ?_ ?_ ?_ | refine Exists.intro _ (And.intro rfl ?_) | refine And.intro ?_ ?_)⟩
      rcases Nat.lt_or_ge j i with h9 | h9
      · exact hok j h9
      · obtain rfl : j = i := by omega
        have hkl : k = (l.list.getD j default).costs.length := by omega
        rw [hm0]
        exact ⟨by omega, by omega, by omega, all_of_getD (by rw [← hkl]; exact hkc)⟩
  · rename_i h3
    have h3 : ¬ (i : Int) < l.list.length := of_decide_eq_false h3
    refine Out.mk (hQ _ _ ?_)
    rw [decide_eq_true ⟨⟨by omega, by omega⟩, ⟨by omega, by omega⟩, fun k hk => hok k (by omega)⟩]
    repeat' first
      | (with_reducible first | refine NeedI.mk (fun h => h) ?_ | refine NeedI.mk (fun h => h.2) ?_ | refine NeedI.mk (fun h => h.1) ?_ | exact Done.mk | refine Both.mk (fun _ => ?_) (fun _ => ?_) | refine Both2.mk (fun _ => ?_) ?_ | refine Need.mk (by first | omega | with_reducible exact CEq.refl _ | (dsimp only; omega) | (dsimp only [rng]; omega) | (simp only [decide_eq_true_eq, decide_eq_false_iff_not, Bool.or_eq_true, Bool.and_eq_true, Bool.or_eq_false_iff, Int.toNat_natCast, addN_eq, cond_false, cond_true, rng] at *; omega) | exact ⟨rfl, rfl⟩) ?_)
      | ((with_reducible refine Need.mk ?_ ?_); exact CEq.refl _)
      | ((with_reducible fail_if_success first | refine LoopVC.mk ?_ | refine Need.mk ?_ ?_ | refine CallVC.mk ?_ | refine LoopEnd.mk ?_ | refine Out.mk ?_ | show False | refine NeedI.mk ?_ ?_); conv => whnf)
end
end Lk.S05
namespace Lk.S05
open Go Lk Lk.C
theorem Ls.ext' {a b : Ls} (h1 : a.list.length = b.list.length) (h2 : a.at_ = b.at_) (h3 : a.given = b.given) (h4 : ∀ i, i < a.list.length → a.list.getD i default = b.list.getD i default) : a = b := by
  cases a; cases b
  obtain rfl := h2
  obtain rfl := h3
  congr 1
  refine List.ext_getElem h1 fun i x y => ?_
  have := h4 i x
  rw [getD_eq x, getD_eq y] at this; exact this
theorem Ln.ext' {a b : Ln} (h1 : a.weight = b.weight) (h2 : a.deficit = b.deficit) (h3 : a.costs.length = b.costs.length) (h4 : ∀ i, i < a.costs.length → a.costs.getD i default = b.costs.getD i default) : a = b := by
  cases a; cases b
  obtain rfl := h1
  obtain rfl := h2
  congr 1
  refine List.ext_getElem h3 fun i x y => ?_
  have := h4 i x
  rw [getD_eq x, getD_eq y] at this; exact this
section
variable {P : Program} {F : Nat → Nat}
set_option maxHeartbeats 8000000 in
set_option maxRecDepth 100000 in
theorem rsame_ok (hm : P.follows .mixedOrders = true) (hk : ref05_Same_k P F) (a b : Ls) (hn : a.list.length ≤ 1000000) (hc : ∀ x ∈ a.list, x.costs.length ≤ 1000000) :
    FnOk P (F 83) [.many 3 (lsE a), .many 3 (lsE b)] [.one (.im (.bool (decide (a = b))))] := by
  refine fnOk hm hk ?_
  repeat' first
    | (with_reducible first | refine NeedI.mk (fun h => h) ?_ | refine NeedI.mk (fun h => h.2) ?_ | refine NeedI.mk (fun h => h.1) ?_ | exact Done.mk | refine Both.mk (fun _ => ?_) (fun _ => ?_) | refine Both2.mk (fun _ => ?_) ?_ | refine Need.mk (by first | omega | with_reducible exact CEq.refl _ | (dsimp only; omega) | (dsimp only [rng]; omega) | (simp only [decide_eq_true_eq, decide_eq_false_iff_not, Bool.or_eq_true, Bool.and_eq_true, Bool.or_eq_false_iff, Int.toNat_natCast, addN_eq, cond_false, cond_true, rng] at *; omega) | exact ⟨rfl, rfl⟩) ?_)
    | ((with_reducible refine Need.mk ?_ ?_); exact CEq.refl _)
    | ((with_reducible fail_if_success first | refine LoopVC.mk ?_ | refine Need.mk ?_ ?_ | refine CallVC.mk ?_ | refine LoopEnd.mk ?_ | refine Out.mk ?_ | show False | refine NeedI.mk ?_ ?_); conv => whnf)
  · rename_i h
    rw [decide_eq_false (fun x : a = b => by rw [x] at h; simp at h)]
    repeat' first
      | (with_reducible first | refine NeedI.mk (fun h => h) ?_ | refine NeedI.mk (fun h => h.2) ?_ | refine NeedI.mk (fun h => h.1) ?_ | exact Done.mk | refine Both.mk (fun _ => ?_) (fun _ => ?_) | refine Both2.mk (fun _ => ?_) ?_ | refine Need.mk (by first | omega | with_reducible exact CEq.refl _ | (dsimp only; omega) | (dsimp only [rng]; omega) | (simp only [decide_eq_true_eq, decide_eq_false_iff_not, Bool.or_eq_true, Bool.and_eq_true, Bool.or_eq_false_iff, Int.toNat_natCast, addN_eq, cond_false, cond_true, rng] at *; omega) | exact ⟨rfl, rfl⟩) ?_)
      | ((with_reducible refine Need.mk ?_ ?_); exact CEq.refl _)
      | ((with_reducible fail_if_success first | refine LoopVC.mk ?_ | refine Need.mk ?_ ?_ | refine CallVC.mk ?_ | refine LoopEnd.mk ?_ | refine Out.mk ?_ | show False | refine NeedI.mk ?_ ?_); conv => whnf)
  rename_i h
  simp only [Bool.or_eq_false_iff, Bool.not_eq_false', decide_eq_true_eq] at h
  obtain ⟨⟨q1, q2⟩, q3⟩ := h
  have q1 : a.list.length = b.list.length := by omega
  have q3 : a.given = b.given := by simpa using q3
  refine LoopVC.inv (fun i : Nat => i ≤ a.list.length ∧ ∀ k, k < i → a.list.getD k default = b.list.getD k default) (fun i => stL [(2, .va 2 0 0), (3, .va 3 0 0), (5, .c (.int .i64 i))]
    [(2, vE [.c (slL 3 lnE a.list), .c (.int .i64 a.at_), .c (.bool a.given)]), (3, vE [.c (slL 3 lnE b.list), .c (.int .i64 b.at_), .c (.bool b.given)])]) (fun i => a.list.length - i) 0 ⟨Nat.zero_le _, fun k hk => by omega⟩ ?_ ?_
  · (refine Le.of ?_ ?_ <;> repeat' first | exact trivial | exact CEq.refl _ | exact rfl | exact cI (by push_cast; first | rfl | omega) | exact SubE.dat fun _ _ _ _ => CEq.refl _ | refine SubE.var2 ?_ ?_ | refine SubE.var1 ?_ | refine SubE.var3 ?_ ?_ ?_ | refine SubE.var4 ?_ ?_ ?_ ?_ | refine SubE.var5 ?_ ?_ ?_ ?_ ?_ | refine Exists.intro _ (And.intro rfl ?_) | refine And.intro ?_ ?_)
  rintro Q hQ i ⟨hi, hok⟩
  repeat' first
    | (with_reducible first | refine NeedI.mk (fun h => h) ?_ | refine NeedI.mk (fun h => h.2) ?_ | refine NeedI.mk (fun h => h.1) ?_ | exact Done.mk | refine Both.mk (fun _ => ?_) (fun _ => ?_) | refine Both2.mk (fun _ => ?_) ?_ | refine Need.mk (by first | omega | with_reducible exact CEq.refl _ | (dsimp only; omega) | (dsimp only [rng]; omega) | (simp only [decide_eq_true_eq, decide_eq_false_iff_not, Bool.or_eq_true, Bool.and_eq_true, Bool.or_eq_false_iff, Int.toNat_natCast, addN_eq, cond_false, cond_true, rng] at *; omega) | exact ⟨rfl, rfl⟩) ?_)
    | ((with_reducible refine Need.mk ?_ ?_); exact CEq.refl _)
    | ((with_reducible fail_if_success first | refine LoopVC.mk ?_ | refine Need.mk ?_ ?_ | refine CallVC.mk ?_ | refine LoopEnd.mk ?_ | refine Out.mk ?_ | show False | refine NeedI.mk ?_ ?_); conv => whnf)
  · rename_i h3 h4
    have h3 : i < a.list.length := by have := of_decide_eq_true h3; omega
    refine Out.mk (hQ _ _ ?_)
    rw [decide_eq_false (fun x : a = b => by rw [x] at h4; simp at h4)]
    repeat' first
      | (with_reducible first | refine NeedI.mk (fun h => h) ?_ | refine NeedI.mk (fun h => h.2) ?_ | refine NeedI.mk (fun h => h.1) ?_ | exact Done.mk | refine Both.mk (fun _ => ?_) (fun _ => ?_) | refine Both2.mk (fun _ => ?_) ?_ | refine Need.mk (by first | omega | with_reducible exact CEq.refl _ | (dsimp only; omega) | (dsimp only [rng]; omega) | (simp only [decide_eq_true_eq, decide_eq_false_iff_not, Bool.or_eq_true, Bool.and_eq_true, Bool.or_eq_false_iff, Int.toNat_natCast, addN_eq, cond_false, cond_true, rng] at *; omega) | exact ⟨rfl, rfl⟩) ?_)
      | ((with_reducible refine Need.mk ?_ ?_); exact CEq.refl _)
      | ((with_reducible fail_if_success first | refine LoopVC.mk ?_ | refine Need.mk ?_ ?_ | refine CallVC.mk ?_ | refine LoopEnd.mk ?_ | refine Out.mk ?_ | show False | refine NeedI.mk ?_ ?_); conv => whnf)
  · rename_i h3 h4
    have h3 : i < a.list.length := by have := of_decide_eq_true h3; omega
    simp only [Int.toNat_natCast, Bool.or_eq_false_iff, Bool.not_eq_false', decide_eq_true_eq] at h4
    obtain ⟨⟨r1, r2⟩, r3⟩ := h4
    have hcl := hc _ (getD_mem h3)
    refine LoopVC.inv (fun k : Nat => k ≤ (a.list.getD i default).costs.length ∧ ∀ j, j < k → (a.list.getD i default).costs.getD j default = (b.list.getD i default).costs.getD j default) (fun k => stL [(2, .va 2 0 0), (3, .va 3 0 0), (5, .c (.int .i64 i)), (6, .va 6 0 0), (7, .va 7 0 0), (8, .c (.int .i64 k))]
      [(2, vE [.c (slL 3 lnE a.list), .c (.int .i64 a.at_), .c (.bool a.given)]), (3, vE [.c (slL 3 lnE b.list), .c (.int .i64 b.at_), .c (.bool b.given)]), (6, vE [.c (.int .i64 (a.list.getD i default).weight), .c (.int .i64 (a.list.getD i default).deficit), .c (slL 1 intE (a.list.getD i default).costs)]), (7, vE [.c (.int .i64 (b.list.getD i default).weight), .c (.int .i64 (b.list.getD i default).deficit), .c (slL 1 intE (b.list.getD i default).costs)])]) (fun k => (a.list.getD i default).costs.length - k) 0 ⟨Nat.zero_le _, fun j hj => by omega⟩ ?_ ?_
    · (refine Le.of ?_ ?_ <;> repeat' first | exact trivial | exact CEq.refl _ | exact rfl | exact cI (by push_cast; first | rfl | omega) | exact SubE.dat fun _ _ _ _ => CEq.refl _ | refine SubE.var2 ?_ ?_ | refine SubE.var1 ?_ | refine SubE.var3 ?_ ?_ ?_ | refine SubE.var4 ?_ ?_ ?_ ?_ | refine SubE.var5 ?_ ?_ ?_ ?_ ?_ | refine Exists.intro _ (And.intro rfl ?_) | refine And.intro ?_ ?_)
    rintro Q2 hQ2 k ⟨hk, hkc⟩
    repeat' first
      | (with_reducible first | refine NeedI.mk (fun h => h) ?_ | refine NeedI.mk (fun h => h.2) ?_ | refine NeedI.mk (fun h => h.1) ?_ | exact Done.mk | refine Both.mk (fun _ => ?_) (fun _ => ?_) | refine Both2.mk (fun _ => ?_) ?_ | refine Need.mk (by first | omega | with_reducible exact CEq.refl _ | (dsimp only; omega) | (dsimp only [rng]; omega) | (simp only [decide_eq_true_eq, decide_eq_false_iff_not, Bool.or_eq_true, Bool.and_eq_true, Bool.or_eq_false_iff, Int.toNat_natCast, addN_eq, cond_false, cond_true, rng] at *; omega) | exact ⟨rfl, rfl⟩) ?_)
      | ((with_reducible refine Need.mk ?_ ?_); exact CEq.refl _)
      | ((with_reducible fail_if_success first | refine LoopVC.mk ?_ | refine Need.mk ?_ ?_ | refine CallVC.mk ?_ | refine LoopEnd.mk ?_ | refine Out.mk ?_ | show False | refine NeedI.mk ?_ ?_); conv => whnf)
    · rename_i h7 h8
      refine Out.mk (hQ2 _ _ ?_)
      refine Out.mk (hQ _ _ ?_)
      rw [decide_eq_false (fun x : a = b => by rw [x] at h8; simp at h8)]
      repeat' first
        | (with_reducible first | refine NeedI.mk (fun h => h) ?_ | refine NeedI.mk (fun h => h.2) ?_ | refine NeedI.mk (fun h => h.1) ?_ | exact Done.mk | refine Both.mk (fun _ => ?_) (fun _ => ?_) | refine Both2.mk (fun _ => ?_) ?_ | refine Need.mk (by first | omega | with_reducible exact CEq.refl _ | (dsimp only; omega) | (dsimp only [rng]; omega) | (simp only [decide_eq_true_eq, decide_eq_false_iff_not, Bool.or_eq_true, Bool.and_eq_true, Bool.or_eq_false_iff, Int.toNat_natCast, addN_eq, cond_false, cond_true, rng] at *; omega) | exact ⟨rfl, rfl⟩) ?_)
        | ((with_reducible refine Need.mk ?_ ?_); exact CEq.refl _)
        | ((with_reducible fail_if_success first | refine LoopVC.mk ?_ | refine Need.mk ?_ ?_ | refine CallVC.mk ?_ | refine LoopEnd.mk ?_ | refine Out.mk ?_ | show False | refine NeedI.mk ?_ ?_); conv => whnf)
    · rename_i h7 h8
      have h7 : k < (a.list.getD i default).costs.length := by have := of_decide_eq_true h7; omega
      simp only [Int.toNat_natCast, Bool.not_eq_false', decide_eq_true_eq] at h8
      refine LoopEnd.mk ⟨k + 1, ⟨h7, fun j hj => ?_⟩, by omega, by (refine Le.of ?_ ?_ <;> repeat' first | exact trivial | exact CEq.refl _ | exact rfl | exact cI (by push_cast; first | rfl | omega) | exact SubE.dat fun _ _ _ _ => CEq.refl _ | refine SubE.var2 ?_ ?_ | refine SubE.var1 ?_ | refine SubE.var3 ?_ ?_ ?_ | refine SubE.var4 ?_ ?_ ?_ ?_ | refine SubE.var5 ?_ ?_ ?_ ?_ ?_ | refine Exists.intro _ (And.intro rfl ?_) | refine And.intro ?_ ?_)⟩
      by_cases e : j = k
      · rw [e]; exact h8
      · exact hkc j (by omega)
    · rename_i h7
      have h7 : k = (a.list.getD i default).costs.length := by have := of_decide_eq_false h7; omega
      refine Out.mk (hQ2 _ _ ?_)
      repeat' first
        | (with_reducible first | refine NeedI.mk (fun h => h) ?_ | refine NeedI.mk (fun h => h.2) ?_ | refine NeedI.mk (fun h => h.1) ?_ | exact Done.mk | refine Both.mk (fun _ => ?_) (fun _ => ?_) | refine Both2.mk (fun _ => ?_) ?_ | refine Need.mk (by first | omega | with_reducible exact CEq.refl _ | (dsimp only; omega) | (dsimp only [rng]; omega) | (simp only [decide_eq_true_eq, decide_eq_false_iff_not, Bool.or_eq_true, Bool.and_eq_true, Bool.or_eq_false_iff, Int.toNat_natCast, addN_eq, cond_false, cond_true, rng] at *; omega) | exact ⟨rfl, rfl⟩) ?_)
        | ((with_reducible refine Need.mk ?_ ?_); exact CEq.refl _)
        | ((with_reducible fail_if_success first | refine LoopVC.mk ?_ | refine Need.mk ?_ ?_ | refine CallVC.mk ?_ | refine LoopEnd.mk ?_ | refine Out.mk ?_ | show False | refine NeedI.mk ?_ ?_); conv => whnf)
      refine LoopEnd.mk ⟨i + 1, ⟨by omega, fun j hj => ?_⟩, by omega, by (refine Le.of ?_ ?_ <;> repeat' first | exact trivial | exact CEq.refl _ | exact rfl | exact cI (by push_cast; first | rfl | omega) | exact SubE.dat fun _ _ _ _ => CEq.refl _ | refine SubE.var2 ?_ ?_ | refine SubE.var1 ?_ | refine SubE.var3 ?_ ?_ ?_ | refine SubE.var4 ?_ ?_ ?_ ?_ | refine SubE.var5 ?_ ?_ ?_ ?_ ?_ | refine Exists.intro _ (And.intro rfl ?_) | refine And.intro ?_ ?_)⟩
      by_cases e : j = i
      · rw [e]; exact Ln.ext' r1 r2 (by omega) (by rw [← h7]; exact hkc)
      · exact hok j (by omega)
  · rename_i h3
    have h3 : i = a.list.length := by have := of_decide_eq_false h3; omega
    refine Out.mk (hQ _ _ ?_)
    rw [decide_eq_true (Ls.ext' q1 q2 q3 (by rw [← h3]; exact hok))]
    repeat' first
      | (with_reducible first | refine NeedI.mk (fun h => h) ?_ | refine NeedI.mk (fun h => h.2) ?_ | refine NeedI.mk (fun h => h.1) ?_ | exact Done.mk | refine Both.mk (fun _ => ?_) (fun _ => ?_) | refine Both2.mk (fun _ => ?_) ?_ | refine Need.mk (by first | omega | with_reducible exact CEq.refl _ | (dsimp only; omega) | (dsimp only [rng]; omega) | (simp only [decide_eq_true_eq, decide_eq_false_iff_not, Bool.or_eq_true, Bool.and_eq_true, Bool.or_eq_false_iff, Int.toNat_natCast, addN_eq, cond_false, cond_true, rng] at *; omega) | exact ⟨rfl, rfl⟩) ?_)
      | ((with_reducible refine Need.mk ?_ ?_); exact CEq.refl _)
      | ((with_reducible fail_if_success first | refine LoopVC.mk ?_ | refine Need.mk ?_ ?_ | refine CallVC.mk ?_ | refine LoopEnd.mk ?_ | refine Out.mk ?_ | show False | refine NeedI.mk ?_ ?_); conv => whnf)
end
end Lk.S05
namespace Lk.S05
open Go Lk Lk.C
def wantL (w : List Int) : Ls := ⟨w.map newLn, 0, false⟩
theorem wantL_at {w : List Int} {r : Nat} (h : r < w.length) : (wantL w).list.getD r default = newLn (w.getD r default) := by
  unfold wantL
  rw [getD_eq (by simpa using h), getD_eq h]; simp
theorem want_right (w : List Int) : right (wantL w) ↔ newOk w := by
  constructor
  · rintro ⟨h1, h2, h3⟩
    have hl : (wantL w).list.length = w.length := by simp [wantL]
    rw [hl] at h1 h3
    refine ⟨h1, all_of_getD fun r hr => ?_⟩
    have := (h3 r hr).1
    rw [wantL_at hr] at this; exact this
  · intro h
    have e := fl_new (costs := []) h
    have : newL w = wantL w := if_pos h
    rw [← this, e]; exact fl_right h (by omega)
theorem small_ref {l : Ls} (h1 : l.list.length ≤ 20) (h2 : ∀ x ∈ l.list, x.costs.length ≤ 220) : refOk l :=
  ⟨h1, fstN_eq (Nat.le_refl _) (fun j hj => decide_eq_false (by have := h2 _ (getD_mem hj); omega)) (fun x => by omega)⟩
theorem refOk.small {l : Ls} (h : refOk l) : l.list.length ≤ 20 ∧ ∀ x ∈ l.list, x.costs.length ≤ 220 := by
  refine ⟨h.1, all_of_getD fun r hr => ?_⟩
  have := fstN_ahead (p := refB l) (n := l.list.length) (j := r) (by rw [h.2]; exact hr)
  have := of_decide_eq_false this; omega
theorem new_ref {w : List Int} : refOk (newL w) := by
  unfold newL
  split
  · rename_i h
    refine small_ref (by have := h.1; simp; omega) fun x hx => ?_
    obtain ⟨y, _, rfl⟩ := List.mem_map.1 hx
    show ([] : List Int).length ≤ 220; decide
  · exact small_ref (by decide) (fun x hx => by cases hx)
theorem push_ref {l : Ls} {k c : Int} (h : refOk l) : refOk (pushL l k c) := by
  unfold pushL
  split
  · rename_i he
    have hs := h.small
    have hp : pushOk l k c := Decidable.byContradiction fun x => by unfold pushE at he; rw [if_neg x] at he; cases he
    refine small_ref (by unfold pushX; simp; exact hs.1) (all_of_getD fun r hr => ?_)
    have hr : r < l.list.length := by unfold pushX at hr; simpa using hr
    have hat : (pushX l k.toNat c).list.getD r default = if r = k.toNat then ⟨(l.list.getD k.toNat default).weight, (l.list.getD k.toNat default).deficit, (l.list.getD k.toNat default).costs ++ [c]⟩ else l.list.getD r default := setL_getD hr
    rw [hat]
    split
    · have := (hp.1.2.2 k.toNat (by have := hp.2.1; omega)).2.2.1
      show ((l.list.getD k.toNat default).costs ++ [c]).length ≤ 220
      rw [List.length_append, List.length_singleton]; omega
    · exact hs.2 _ (getD_mem hr)
  · exact h
section
variable {P : Program} {F : Nat → Nat}
structure KR05 (P : Program) (F : Nat → Nat) : Prop where
  ref : law05_ref_k P F
  right : ref05_Right_k P F
  same : ref05_Same_k P F
set_option maxHeartbeats 8000000 in
set_option maxRecDepth 100000 in
theorem lanesPush_law (K : K05 P F) (R : KR05 P F) (hk : law05_LanesPush_k P F) (weights : List Int) (l : Ls) (lane cost : Int) (h1 : weights.length ≤ 9223372036854775807) (h2 : l.list.length ≤ 9223372036854775807) (h3 : ∀ x ∈ l.list, x.costs.length ≤ 9223372036854775807) (h4 : rng .i64 lane) (h5 : rng .i64 cost) :
    FnOk P (F 84) [.one (slL 1 intE weights), .many 3 (lsE l), .one (.int .i64 lane), .one (.int .i64 cost)] [.one (.im (.bool true))] := by
  refine fnOk K.k.m hk ?_
  repeat' first
    | (with_reducible first | refine NeedI.mk (fun h => h) ?_ | refine NeedI.mk (fun h => h.2) ?_ | refine NeedI.mk (fun h => h.1) ?_ | exact Done.mk | refine Both.mk (fun _ => ?_) (fun _ => ?_) | refine Both2.mk (fun _ => ?_) ?_ | refine Need.mk (by first | omega | with_reducible exact CEq.refl _ | (dsimp only; omega) | (dsimp only [rng]; omega) | (simp only [decide_eq_true_eq, decide_eq_false_iff_not, Bool.or_eq_true, Bool.and_eq_true, Bool.or_eq_false_iff, Int.toNat_natCast, addN_eq, cond_false, cond_true, rng] at *; omega) | exact ⟨rfl, rfl⟩) ?_)
    | ((with_reducible refine Need.mk ?_ ?_); exact CEq.refl _)
    | ((with_reducible fail_if_success first | refine LoopVC.mk ?_ | refine Need.mk ?_ ?_ | refine CallVC.mk ?_ | refine LoopEnd.mk ?_ | refine Out.mk ?_ | show False | refine NeedI.mk ?_ ?_); conv => whnf)
  refine CallVC.mk' (fun _ => ref_ok K.k.m R.ref l h2 h3) (fun _ => .cons ((.many fun j hj => by (rcases (show j = 0 ∨ j = 1 ∨ j = 2 by omega) with rfl | rfl | rfl <;> exact CEq.refl _))) .nil) ?_
  repeat' first
    | (with_reducible first | refine NeedI.mk (fun h => h) ?_ | refine NeedI.mk (fun h => h.2) ?_ | refine NeedI.mk (fun h => h.1) ?_ | exact Done.mk | refine Both.mk (fun _ => ?_) (fun _ => ?_) | refine Both2.mk (fun _ => ?_) ?_ | refine Need.mk (by first | omega | with_reducible exact CEq.refl _ | (dsimp only; omega) | (dsimp only [rng]; omega) | (simp only [decide_eq_true_eq, decide_eq_false_iff_not, Bool.or_eq_true, Bool.and_eq_true, Bool.or_eq_false_iff, Int.toNat_natCast, addN_eq, cond_false, cond_true, rng] at *; omega) | exact ⟨rfl, rfl⟩) ?_)
    | ((with_reducible refine Need.mk ?_ ?_); exact CEq.refl _)
    | ((with_reducible fail_if_success first | refine LoopVC.mk ?_ | refine Need.mk ?_ ?_ | refine CallVC.mk ?_ | refine LoopEnd.mk ?_ | refine Out.mk ?_ | show False | refine NeedI.mk ?_ ?_); conv => whnf)
  · refine CallVC.mk' (fun _ => awake_ok K) (fun _ => .nil) ?_
    repeat' first
      | (with_reducible first | refine NeedI.mk (fun h => h) ?_ | refine NeedI.mk (fun h => h.2) ?_ | refine NeedI.mk (fun h => h.1) ?_ | exact Done.mk | refine Both.mk (fun _ => ?_) (fun _ => ?_) | refine Both2.mk (fun _ => ?_) ?_ | refine Need.mk (by first | omega | with_reducible exact CEq.refl _ | (dsimp only; omega) | (dsimp only [rng]; omega) | (simp only [decide_eq_true_eq, decide_eq_false_iff_not, Bool.or_eq_true, Bool.and_eq_true, Bool.or_eq_false_iff, Int.toNat_natCast, addN_eq, cond_false, cond_true, rng] at *; omega) | exact ⟨rfl, rfl⟩) ?_)
      | ((with_reducible refine Need.mk ?_ ?_); exact CEq.refl _)
      | ((with_reducible fail_if_success first | refine LoopVC.mk ?_ | refine Need.mk ?_ ?_ | refine CallVC.mk ?_ | refine LoopEnd.mk ?_ | refine Out.mk ?_ | show False | refine NeedI.mk ?_ ?_); conv => whnf)
  rename_i hg
  simp only [Bool.or_eq_false_iff, Bool.not_eq_false', decide_eq_true_eq, decide_eq_false_iff_not] at hg
  obtain ⟨hg1, hg2⟩ := hg
  rw [refL_ok hg1]
  have hsm := hg1.small
  refine CallVC.mk' (fun _ => new_ok K.k weights (by omega)) (fun _ => .cons (.one (CEq.refl _)) .nil) ?_
  have hnr := new_ref (w := weights)
  have hnl := refL_ok hnr
  have hns := hnr.small
  have hwr := want_right weights
  have hnw : newOk weights → newL weights = wantL weights := fun x => if_pos x
  have hne : newE weights = if newOk weights then 0 else 1 := rfl
  have hnn : ¬ newOk weights → newL weights = ⟨[], 0, false⟩ := fun x => if_neg x
  generalize hln : newL weights = ln at *
  repeat' first
    | (with_reducible first | refine NeedI.mk (fun h => h) ?_ | refine NeedI.mk (fun h => h.2) ?_ | refine NeedI.mk (fun h => h.1) ?_ | exact Done.mk | refine Both.mk (fun _ => ?_) (fun _ => ?_) | refine Both2.mk (fun _ => ?_) ?_ | refine Need.mk (by first | omega | with_reducible exact CEq.refl _ | (dsimp only; omega) | (dsimp only [rng]; omega) | (simp only [decide_eq_true_eq, decide_eq_false_iff_not, Bool.or_eq_true, Bool.and_eq_true, Bool.or_eq_false_iff, Int.toNat_natCast, addN_eq, cond_false, cond_true, rng] at *; omega) | exact ⟨rfl, rfl⟩) ?_)
    | ((with_reducible refine Need.mk ?_ ?_); exact CEq.refl _)
    | ((with_reducible fail_if_success first | refine LoopVC.mk ?_ | refine Need.mk ?_ ?_ | refine CallVC.mk ?_ | refine LoopEnd.mk ?_ | refine Out.mk ?_ | show False | refine NeedI.mk ?_ ?_); conv => whnf)
  refine CallVC.mk' (fun _ => ref_ok K.k.m R.ref ln (by omega) (fun x hx => by have := hns.2 x hx; omega)) (fun _ => .cons ((.many fun j hj => by (rcases (show j = 0 ∨ j = 1 ∨ j = 2 by omega) with rfl | rfl | rfl <;> exact CEq.refl _))) .nil) ?_
  rw [hnl]
  repeat' first
    | (with_reducible first | refine NeedI.mk (fun h => h) ?_ | refine NeedI.mk (fun h => h.2) ?_ | refine NeedI.mk (fun h => h.1) ?_ | exact Done.mk | refine Both.mk (fun _ => ?_) (fun _ => ?_) | refine Both2.mk (fun _ => ?_) ?_ | refine Need.mk (by first | omega | with_reducible exact CEq.refl _ | (dsimp only; omega) | (dsimp only [rng]; omega) | (simp only [decide_eq_true_eq, decide_eq_false_iff_not, Bool.or_eq_true, Bool.and_eq_true, Bool.or_eq_false_iff, Int.toNat_natCast, addN_eq, cond_false, cond_true, rng] at *; omega) | exact ⟨rfl, rfl⟩) ?_)
    | ((with_reducible refine Need.mk ?_ ?_); exact CEq.refl _)
    | ((with_reducible fail_if_success first | refine LoopVC.mk ?_ | refine Need.mk ?_ ?_ | refine CallVC.mk ?_ | refine LoopEnd.mk ?_ | refine Out.mk ?_ | show False | refine NeedI.mk ?_ ?_); conv => whnf)
  refine LoopVC.inv (fun i : Nat => i ≤ weights.length) (fun i => stL [(2, .c (.int .i64 lane)), (3, .c (.int .i64 cost)), (5, .va 5 0 0), (9, .va 9 0 0), (11, .va 11 0 0), (12, .c (.int .i64 (newE weights))), (13, .va 13 0 0), (15, .va 15 0 0), (50, .c (slL 1 intE weights)), (51, .c (.int .i64 weights.length)), (52, .c (.int .i64 i))]
    [(5, vE [.c (slL 3 lnE l.list), .c (.int .i64 l.at_), .c (.bool l.given)]), (9, vE [.c (slL 3 lnE l.list), .c (.int .i64 l.at_), .c (.bool l.given)]), (11, vE [.c (slL 3 lnE ln.list), .c (.int .i64 ln.at_), .c (.bool ln.given)]), (13, vE [.c (slL 3 lnE ln.list), .c (.int .i64 ln.at_), .c (.bool ln.given)]), (15, vE [.os 61 0 3 0 i, .c (.int .i64 0), .c (.bool false)]), (61, ⟨3, i, .dat fun r j => lnE (newLn (weights.getD r default)) j, false, true⟩)]) (fun i => weights.length - i) 0 (Nat.zero_le _) ?_ ?_
  · (refine Le.ofN [61] ?_ ?_ <;> repeat' first | exact trivial | exact SubF.inr ⟨_, _, _, rfl, rfl, rfl⟩ | exact SubF.inl (cI (by push_cast; first | rfl | omega)) | exact SubF.inl (CEq.refl _) | exact SubF.inl rfl | exact SubF.inl trivial | exact SubF.inl ⟨rfl, rfl, rfl⟩ | exact SubF.inl ⟨rfl, rfl, rfl, rfl, rfl⟩ | exact Or.inl ⟨rfl, rfl⟩ | refine Or.inr ⟨rfl, _, rfl, ?_⟩ | refine SubEF.var2 ?_ ?_ | refine SubEF.var1 ?_ | refine SubEF.var3 ?_ ?_ ?_ | refine SubEF.var4 ?_ ?_ ?_ ?_ | exact SubEF.of (SubE.dat fun _ _ _ _ => CEq.refl _) | refine And.intro ?_ ?_ | refine SubF.frz rfl rfl rfl rfl (Nat.le_of_eq (Nat.zero_add _)) rfl rfl ?_)
  rintro Q hQ i hi
  repeat' first
    | (with_reducible first | refine NeedI.mk (fun h => h) ?_ | refine NeedI.mk (fun h => h.2) ?_ | refine NeedI.mk (fun h => h.1) ?_ | exact Done.mk | refine Both.mk (fun _ => ?_) (fun _ => ?_) | refine Both2.mk (fun _ => ?_) ?_ | refine Need.mk (by first | omega | with_reducible exact CEq.refl _ | (dsimp only; omega) | (dsimp only [rng]; omega) | (simp only [decide_eq_true_eq, decide_eq_false_iff_not, Bool.or_eq_true, Bool.and_eq_true, Bool.or_eq_false_iff, Int.toNat_natCast, addN_eq, cond_false, cond_true, rng] at *; omega) | exact ⟨rfl, rfl⟩) ?_)
    | ((with_reducible refine Need.mk ?_ ?_); exact CEq.refl _)
    | ((with_reducible fail_if_success first | refine LoopVC.mk ?_ | refine Need.mk ?_ ?_ | refine CallVC.mk ?_ | refine LoopEnd.mk ?_ | refine Out.mk ?_ | show False | refine NeedI.mk ?_ ?_); conv => whnf)
  · rename_i h
    have h : i < weights.length := by have := of_decide_eq_true h; omega
    refine LoopEnd.mk ⟨i + 1, h, by omega, ?_⟩
    (refine Le.of ?_ ?_ <;> repeat' first | exact trivial | exact CEq.refl _ | exact rfl | exact cI (by push_cast; first | rfl | omega) | exact SubE.dat fun _ _ _ _ => CEq.refl _ | refine SubE.var2 ?_ ?_ | refine SubE.var1 ?_ | refine SubE.var3 ?_ ?_ ?_ | refine SubE.var4 ?_ ?_ ?_ ?_ | refine SubE.var5 ?_ ?_ ?_ ?_ ?_ | refine Exists.intro _ (And.intro rfl ?_) | refine And.intro ?_ ?_)
    refine SubE.dat fun r hr j hj => ?_
    have hr : r < i + 1 := hr
    rw [appC_at]
    by_cases e : i ≤ r
    · rw [if_pos e]
      obtain rfl : r = i := by omega
      rw [Nat.sub_self]
      have hj : j < 3 := hj
      rcases (show j = 0 ∨ j = 1 ∨ j = 2 by omega) with rfl | rfl | rfl
      · exact CEq.refl _
      · exact CEq.refl _
      · exact ceq_nil
    · rw [if_neg e]; exact CEq.refl _
  rename_i h
  have h : i = weights.length := by have := of_decide_eq_false h; omega
  refine Out.mk (hQ _ _ ?_)
  clear hQ Q hi
  subst h
  have hwl : (wantL weights).list.length = weights.length := by simp [wantL]
  have hwc : CEq (Cell.sl 3 weights.length fun r j => lnE (newLn (weights.getD r default)) j) (slL 3 lnE (wantL weights).list) := IsL.ceq (l := (wantL weights).list) (fun r hr j hj => by
    rw [hwl] at hr
    rw [wantL_at hr]; exact CEq.refl _) hwl.symm
  have hwcs : ∀ x ∈ (wantL weights).list, x.costs.length ≤ 1000000 := fun x hx => by
    obtain ⟨y, _, rfl⟩ := List.mem_map.1 hx
    show ([] : List Int).length ≤ 1000000; decide
  have hdr : decide (right (wantL weights)) = decide (newOk weights) := decide_eq_decide.2 hwr
  have hT : Tiny l := ⟨by omega, fun x hx => by have := hsm.2 x hx; omega⟩
  repeat' first
    | (with_reducible first | refine NeedI.mk (fun h => h) ?_ | refine NeedI.mk (fun h => h.2) ?_ | refine NeedI.mk (fun h => h.1) ?_ | exact Done.mk | refine Both.mk (fun _ => ?_) (fun _ => ?_) | refine Both2.mk (fun _ => ?_) ?_ | refine Need.mk (by first | omega | with_reducible exact CEq.refl _ | (dsimp only; omega) | (dsimp only [rng]; omega) | (simp only [decide_eq_true_eq, decide_eq_false_iff_not, Bool.or_eq_true, Bool.and_eq_true, Bool.or_eq_false_iff, Int.toNat_natCast, addN_eq, cond_false, cond_true, rng] at *; omega) | exact ⟨rfl, rfl⟩) ?_)
    | ((with_reducible refine Need.mk ?_ ?_); exact CEq.refl _)
    | ((with_reducible fail_if_success first | refine LoopVC.mk ?_ | refine Need.mk ?_ ?_ | refine CallVC.mk ?_ | refine LoopEnd.mk ?_ | refine Out.mk ?_ | show False | refine NeedI.mk ?_ ?_); conv => whnf)
  refine CallVC.mk' (fun _ => rright_ok K.k.m R.right (wantL weights) (by omega) hwcs) (fun _ => .cons (.many fun j hj => by
    rcases (show j = 0 ∨ j = 1 ∨ j = 2 by omega) with rfl | rfl | rfl
    · exact CEq.trans (CEq.slice fun r hr j hj => by show CEq (lnE (newLn (weights.getD (addN 0 r) default)) j) _; rw [addN_eq, Nat.zero_add]; exact CEq.refl _) hwc
    · exact CEq.refl _
    · exact CEq.refl _) .nil) ?_
  rw [hdr, hne]
  by_cases hno : newOk weights
  · rw [decide_eq_true hno, if_pos hno]
    have hlw := hnw hno
    repeat' first
      | (with_reducible first | refine NeedI.mk (fun h => h) ?_ | refine NeedI.mk (fun h => h.2) ?_ | refine NeedI.mk (fun h => h.1) ?_ | exact Done.mk | refine Both.mk (fun _ => ?_) (fun _ => ?_) | refine Both2.mk (fun _ => ?_) ?_ | refine Need.mk (by first | omega | with_reducible exact CEq.refl _ | (dsimp only; omega) | (dsimp only [rng]; omega) | (simp only [decide_eq_true_eq, decide_eq_false_iff_not, Bool.or_eq_true, Bool.and_eq_true, Bool.or_eq_false_iff, Int.toNat_natCast, addN_eq, cond_false, cond_true, rng] at *; omega) | exact ⟨rfl, rfl⟩) ?_)
      | ((with_reducible refine Need.mk ?_ ?_); exact CEq.refl _)
      | ((with_reducible fail_if_success first | refine LoopVC.mk ?_ | refine Need.mk ?_ ?_ | refine CallVC.mk ?_ | refine LoopEnd.mk ?_ | refine Out.mk ?_ | show False | refine NeedI.mk ?_ ?_); conv => whnf)
    refine CallVC.mk' (fun _ => rsame_ok K.k.m R.same ln (wantL weights) (by omega) (fun x hx => by have := hns.2 x hx; omega)) (fun _ => .cons ((.many fun j hj => by (rcases (show j = 0 ∨ j = 1 ∨ j = 2 by omega) with rfl | rfl | rfl <;> exact CEq.refl _))) (.cons (.many fun j hj => by
      rcases (show j = 0 ∨ j = 1 ∨ j = 2 by omega) with rfl | rfl | rfl
      · exact CEq.trans (CEq.slice fun r hr j hj => by show CEq (lnE (newLn (weights.getD (addN 0 r) default)) j) _; rw [addN_eq, Nat.zero_add]; exact CEq.refl _) hwc
      · exact CEq.refl _
      · exact CEq.refl _) .nil)) ?_
    rw [decide_eq_true hlw]
    repeat' first
      | (with_reducible first | refine NeedI.mk (fun h => h) ?_ | refine NeedI.mk (fun h => h.2) ?_ | refine NeedI.mk (fun h => h.1) ?_ | exact Done.mk | refine Both.mk (fun _ => ?_) (fun _ => ?_) | refine Both2.mk (fun _ => ?_) ?_ | refine Need.mk (by first | omega | with_reducible exact CEq.refl _ | (dsimp only; omega) | (dsimp only [rng]; omega) | (simp only [decide_eq_true_eq, decide_eq_false_iff_not, Bool.or_eq_true, Bool.and_eq_true, Bool.or_eq_false_iff, Int.toNat_natCast, addN_eq, cond_false, cond_true, rng] at *; omega) | exact ⟨rfl, rfl⟩) ?_)
      | ((with_reducible refine Need.mk ?_ ?_); exact CEq.refl _)
      | ((with_reducible fail_if_success first | refine LoopVC.mk ?_ | refine Need.mk ?_ ?_ | refine CallVC.mk ?_ | refine LoopEnd.mk ?_ | refine Out.mk ?_ | show False | refine NeedI.mk ?_ ?_); conv => whnf)
    · rename_i h; exfalso; simp at h
    rename_i hx
    clear hx hwc hwcs hdr hne hnw hnn hnr hnl hns hwr
    refine CallVC.mk' (fun _ => push_ok K.k l lane cost hT) (fun _ => .cons ((.many fun j hj => by (rcases (show j = 0 ∨ j = 1 ∨ j = 2 by omega) with rfl | rfl | rfl <;> exact CEq.refl _))) (.cons (.one (CEq.refl _)) (.cons (.one (CEq.refl _)) .nil))) ?_
    have hpr := push_ref (k := lane) (c := cost) hg1
    have hprl := refL_ok hpr
    have hps := hpr.small
    have hf1 : ¬ pushOk l lane cost → l = pushL l lane cost ∧ pushE l lane cost = 1 := fun x => by
      have e : pushE l lane cost = 1 := if_neg x
      exact ⟨by unfold pushL; rw [if_neg (by rw [e]; decide)], e⟩
    have hf7 : pushOk l lane cost → 200 ≤ (l.list.getD lane.toNat default).costs.length → l = pushL l lane cost ∧ pushE l lane cost = 7 := fun x y => by
      have e : pushE l lane cost = 7 := by unfold pushE; rw [if_pos x, if_pos y]
      exact ⟨by unfold pushL; rw [if_neg (by rw [e]; decide)], e⟩
    have hf0 : pushOk l lane cost → (l.list.getD lane.toNat default).costs.length < 200 → pushX l lane.toNat cost = pushL l lane cost ∧ pushE l lane cost = 0 := fun x y => by
      have e : pushE l lane cost = 0 := by unfold pushE; rw [if_pos x, if_neg (by omega)]
      exact ⟨by unfold pushL; rw [if_pos e], e⟩
    generalize hpl : pushL l lane cost = p at *
    generalize hpe : pushE l lane cost = f at *
    repeat' first
      | (with_reducible first | refine NeedI.mk (fun h => h) ?_ | refine NeedI.mk (fun h => h.2) ?_ | refine NeedI.mk (fun h => h.1) ?_ | exact Done.mk | refine Both.mk (fun _ => ?_) (fun _ => ?_) | refine Both2.mk (fun _ => ?_) ?_ | refine Need.mk (by first | omega | with_reducible exact CEq.refl _ | (dsimp only; omega) | (dsimp only [rng]; omega) | (simp only [decide_eq_true_eq, decide_eq_false_iff_not, Bool.or_eq_true, Bool.and_eq_true, Bool.or_eq_false_iff, Int.toNat_natCast, addN_eq, cond_false, cond_true, rng] at *; omega) | exact ⟨rfl, rfl⟩) ?_)
      | ((with_reducible refine Need.mk ?_ ?_); exact CEq.refl _)
      | ((with_reducible fail_if_success first | refine LoopVC.mk ?_ | refine Need.mk ?_ ?_ | refine CallVC.mk ?_ | refine LoopEnd.mk ?_ | refine Out.mk ?_ | show False | refine NeedI.mk ?_ ?_); conv => whnf)
    refine CallVC.mk' (fun _ => ref_ok K.k.m R.ref p (by omega) (fun x hx => by have := hps.2 x hx; omega)) (fun _ => .cons ((.many fun j hj => by (rcases (show j = 0 ∨ j = 1 ∨ j = 2 by omega) with rfl | rfl | rfl <;> exact CEq.refl _))) .nil) ?_
    rw [hprl, decide_eq_true hpr]
    repeat' first
      | (with_reducible first | refine NeedI.mk (fun h => h) ?_ | refine NeedI.mk (fun h => h.2) ?_ | refine NeedI.mk (fun h => h.1) ?_ | exact Done.mk | refine Both.mk (fun _ => ?_) (fun _ => ?_) | refine Both2.mk (fun _ => ?_) ?_ | refine Need.mk (by first | omega | with_reducible exact CEq.refl _ | (dsimp only; omega) | (dsimp only [rng]; omega) | (simp only [decide_eq_true_eq, decide_eq_false_iff_not, Bool.or_eq_true, Bool.and_eq_true, Bool.or_eq_false_iff, Int.toNat_natCast, addN_eq, cond_false, cond_true, rng] at *; omega) | exact ⟨rfl, rfl⟩) ?_)
      | ((with_reducible refine Need.mk ?_ ?_); exact CEq.refl _)
      | ((with_reducible fail_if_success first | refine LoopVC.mk ?_ | refine Need.mk ?_ ?_ | refine CallVC.mk ?_ | refine LoopEnd.mk ?_ | refine Out.mk ?_ | show False | refine NeedI.mk ?_ ?_); conv => whnf)
    refine CallVC.mk' (fun _ => rright_ok K.k.m R.right l hT.n hT.c) (fun _ => .cons ((.many fun j hj => by (rcases (show j = 0 ∨ j = 1 ∨ j = 2 by omega) with rfl | rfl | rfl <;> exact CEq.refl _))) .nil) ?_
    repeat' first
      | (with_reducible first | refine NeedI.mk (fun h => h) ?_ | refine NeedI.mk (fun h => h.2) ?_ | refine NeedI.mk (fun h => h.1) ?_ | exact Done.mk | refine Both.mk (fun _ => ?_) (fun _ => ?_) | refine Both2.mk (fun _ => ?_) ?_ | refine Need.mk (by first | omega | with_reducible exact CEq.refl _ | (dsimp only; omega) | (dsimp only [rng]; omega) | (simp only [decide_eq_true_eq, decide_eq_false_iff_not, Bool.or_eq_true, Bool.and_eq_true, Bool.or_eq_false_iff, Int.toNat_natCast, addN_eq, cond_false, cond_true, rng] at *; omega) | exact ⟨rfl, rfl⟩) ?_)
      | ((with_reducible refine Need.mk ?_ ?_); exact CEq.refl _)
      | ((with_reducible fail_if_success first | refine LoopVC.mk ?_ | refine Need.mk ?_ ?_ | refine CallVC.mk ?_ | refine LoopEnd.mk ?_ | refine Out.mk ?_ | show False | refine NeedI.mk ?_ ?_); conv => whnf)
    refine CallVC.mk' (fun _ => right_ok K.k.m K.k.right l hT) (fun _ => .cons ((.many fun j hj => by (rcases (show j = 0 ∨ j = 1 ∨ j = 2 by omega) with rfl | rfl | rfl <;> exact CEq.refl _))) .nil) ?_
    repeat' first
      | (with_reducible first | refine NeedI.mk (fun h => h) ?_ | refine NeedI.mk (fun h => h.2) ?_ | refine NeedI.mk (fun h => h.1) ?_ | exact Done.mk | refine Both.mk (fun _ => ?_) (fun _ => ?_) | refine Both2.mk (fun _ => ?_) ?_ | refine Need.mk (by first | omega | with_reducible exact CEq.refl _ | (dsimp only; omega) | (dsimp only [rng]; omega) | (simp only [decide_eq_true_eq, decide_eq_false_iff_not, Bool.or_eq_true, Bool.and_eq_true, Bool.or_eq_false_iff, Int.toNat_natCast, addN_eq, cond_false, cond_true, rng] at *; omega) | exact ⟨rfl, rfl⟩) ?_)
      | ((with_reducible refine Need.mk ?_ ?_); exact CEq.refl _)
      | ((with_reducible fail_if_success first | refine LoopVC.mk ?_ | refine Need.mk ?_ ?_ | refine CallVC.mk ?_ | refine LoopEnd.mk ?_ | refine Out.mk ?_ | show False | refine NeedI.mk ?_ ?_); conv => whnf)
    · rename_i h; exfalso; simp at h
    · rename_i h
      have hno2 : ¬ pushOk l lane cost := fun x => by
        obtain ⟨a, ⟨b1, b2⟩, c1, c2⟩ := x
        rw [decide_eq_true a] at h
        simp only [Bool.not_true, Bool.false_or, Bool.or_eq_true, decide_eq_true_eq] at h; omega
      obtain ⟨e1, e2⟩ := hf1 hno2
      refine CallVC.mk' (fun _ => rsame_ok K.k.m R.same l p (by omega) hT.c) (fun _ => .cons ((.many fun j hj => by (rcases (show j = 0 ∨ j = 1 ∨ j = 2 by omega) with rfl | rfl | rfl <;> exact CEq.refl _))) (.cons ((.many fun j hj => by (rcases (show j = 0 ∨ j = 1 ∨ j = 2 by omega) with rfl | rfl | rfl <;> exact CEq.refl _))) .nil)) ?_
      rw [decide_eq_true e1, e2]
      repeat' first
        | (with_reducible first | refine NeedI.mk (fun h => h) ?_ | refine NeedI.mk (fun h => h.2) ?_ | refine NeedI.mk (fun h => h.1) ?_ | exact Done.mk | refine Both.mk (fun _ => ?_) (fun _ => ?_) | refine Both2.mk (fun _ => ?_) ?_ | refine Need.mk (by first | omega | with_reducible exact CEq.refl _ | (dsimp only; omega) | (dsimp only [rng]; omega) | (simp only [decide_eq_true_eq, decide_eq_false_iff_not, Bool.or_eq_true, Bool.and_eq_true, Bool.or_eq_false_iff, Int.toNat_natCast, addN_eq, cond_false, cond_true, rng] at *; omega) | exact ⟨rfl, rfl⟩) ?_)
        | ((with_reducible refine Need.mk ?_ ?_); exact CEq.refl _)
        | ((with_reducible fail_if_success first | refine LoopVC.mk ?_ | refine Need.mk ?_ ?_ | refine CallVC.mk ?_ | refine LoopEnd.mk ?_ | refine Out.mk ?_ | show False | refine NeedI.mk ?_ ?_); conv => whnf)
      refine CallVC.mk' (fun _ => awake_ok K) (fun _ => .nil) ?_
      repeat' first
        | (with_reducible first | refine NeedI.mk (fun h => h) ?_ | refine NeedI.mk (fun h => h.2) ?_ | refine NeedI.mk (fun h => h.1) ?_ | exact Done.mk | refine Both.mk (fun _ => ?_) (fun _ => ?_) | refine Both2.mk (fun _ => ?_) ?_ | refine Need.mk (by first | omega | with_reducible exact CEq.refl _ | (dsimp only; omega) | (dsimp only [rng]; omega) | (simp only [decide_eq_true_eq, decide_eq_false_iff_not, Bool.or_eq_true, Bool.and_eq_true, Bool.or_eq_false_iff, Int.toNat_natCast, addN_eq, cond_false, cond_true, rng] at *; omega) | exact ⟨rfl, rfl⟩) ?_)
        | ((with_reducible refine Need.mk ?_ ?_); exact CEq.refl _)
        | ((with_reducible fail_if_success first | refine LoopVC.mk ?_ | refine Need.mk ?_ ?_ | refine CallVC.mk ?_ | refine LoopEnd.mk ?_ | refine Out.mk ?_ | show False | refine NeedI.mk ?_ ?_); conv => whnf)
    · rename_i h h7
      have h7 : (l.list.getD lane.toNat default).costs.length = 200 := by have := of_decide_eq_true h7; omega
      simp only [Bool.or_eq_false_iff, Bool.not_eq_false', decide_eq_true_eq, decide_eq_false_iff_not] at h
      have hok : pushOk l lane cost := ⟨h.1.1.1.1, ⟨by omega, by omega⟩, by omega, by omega⟩
      obtain ⟨e1, e2⟩ := hf7 hok (by omega)
      refine CallVC.mk' (fun _ => rsame_ok K.k.m R.same l p (by omega) hT.c) (fun _ => .cons ((.many fun j hj => by (rcases (show j = 0 ∨ j = 1 ∨ j = 2 by omega) with rfl | rfl | rfl <;> exact CEq.refl _))) (.cons ((.many fun j hj => by (rcases (show j = 0 ∨ j = 1 ∨ j = 2 by omega) with rfl | rfl | rfl <;> exact CEq.refl _))) .nil)) ?_
      rw [decide_eq_true e1, e2]
      repeat' first
        | (with_reducible first | refine NeedI.mk (fun h => h) ?_ | refine NeedI.mk (fun h => h.2) ?_ | refine NeedI.mk (fun h => h.1) ?_ | exact Done.mk | refine Both.mk (fun _ => ?_) (fun _ => ?_) | refine Both2.mk (fun _ => ?_) ?_ | refine Need.mk (by first | omega | with_reducible exact CEq.refl _ | (dsimp only; omega) | (dsimp only [rng]; omega) | (simp only [decide_eq_true_eq, decide_eq_false_iff_not, Bool.or_eq_true, Bool.and_eq_true, Bool.or_eq_false_iff, Int.toNat_natCast, addN_eq, cond_false, cond_true, rng] at *; omega) | exact ⟨rfl, rfl⟩) ?_)
        | ((with_reducible refine Need.mk ?_ ?_); exact CEq.refl _)
        | ((with_reducible fail_if_success first | refine LoopVC.mk ?_ | refine Need.mk ?_ ?_ | refine CallVC.mk ?_ | refine LoopEnd.mk ?_ | refine Out.mk ?_ | show False | refine NeedI.mk ?_ ?_); conv => whnf)
      refine CallVC.mk' (fun _ => awake_ok K) (fun _ => .nil) ?_
      repeat' first
        | (with_reducible first | refine NeedI.mk (fun h => h) ?_ | refine NeedI.mk (fun h => h.2) ?_ | refine NeedI.mk (fun h => h.1) ?_ | exact Done.mk | refine Both.mk (fun _ => ?_) (fun _ => ?_) | refine Both2.mk (fun _ => ?_) ?_ | refine Need.mk (by first | omega | with_reducible exact CEq.refl _ | (dsimp only; omega) | (dsimp only [rng]; omega) | (simp only [decide_eq_true_eq, decide_eq_false_iff_not, Bool.or_eq_true, Bool.and_eq_true, Bool.or_eq_false_iff, Int.toNat_natCast, addN_eq, cond_false, cond_true, rng] at *; omega) | exact ⟨rfl, rfl⟩) ?_)
        | ((with_reducible refine Need.mk ?_ ?_); exact CEq.refl _)
        | ((with_reducible fail_if_success first | refine LoopVC.mk ?_ | refine Need.mk ?_ ?_ | refine CallVC.mk ?_ | refine LoopEnd.mk ?_ | refine Out.mk ?_ | show False | refine NeedI.mk ?_ ?_); conv => whnf)
    rename_i h h7
    have h7 : ¬ (l.list.getD lane.toNat default).costs.length = 200 := by have := of_decide_eq_false h7; omega
    simp only [Bool.or_eq_false_iff, Bool.not_eq_false', decide_eq_true_eq, decide_eq_false_iff_not] at h
    have hok : pushOk l lane cost := ⟨h.1.1.1.1, ⟨by omega, by omega⟩, by omega, by omega⟩
    have h200 := (h.1.1.1.1.2.2 lane.toNat (by omega)).2.2.1
    obtain ⟨e1, e2⟩ := hf0 hok (by omega)
    refine LoopVC.inv (fun i : Nat => i ≤ l.list.length) (fun i => stL [(2, .c (.int .i64 lane)), (3, .c (.int .i64 cost)), (19, .c (.int .i64 f)), (20, .va 20 0 0), (23, .va 23 0 0), (170, .c (slL 3 lnE l.list)), (171, .c (.int .i64 l.list.length)), (172, .c (.int .i64 i))]
      [(20, vE [.c (slL 3 lnE p.list), .c (.int .i64 p.at_), .c (.bool p.given)]), (23, vE [.os 192 0 3 0 i, .c (.int .i64 l.at_), .c (.bool l.given)]), (192, ⟨3, i, .dat fun r j => lnE ((pushX l lane.toNat cost).list.getD r default) j, false, true⟩)]) (fun i => l.list.length - i) 0 (Nat.zero_le _) ?_ ?_
    · (refine Le.ofN [192] ?_ ?_ <;> repeat' first | exact trivial | exact SubF.inr ⟨_, _, _, rfl, rfl, rfl⟩ | exact SubF.inl (cI (by push_cast; first | rfl | omega)) | exact SubF.inl (CEq.refl _) | exact SubF.inl rfl | exact SubF.inl trivial | exact SubF.inl ⟨rfl, rfl, rfl⟩ | exact SubF.inl ⟨rfl, rfl, rfl, rfl, rfl⟩ | exact Or.inl ⟨rfl, rfl⟩ | refine Or.inr ⟨rfl, _, rfl, ?_⟩ | refine SubEF.var2 ?_ ?_ | refine SubEF.var1 ?_ | refine SubEF.var3 ?_ ?_ ?_ | refine SubEF.var4 ?_ ?_ ?_ ?_ | exact SubEF.of (SubE.dat fun _ _ _ _ => CEq.refl _) | refine And.intro ?_ ?_ | refine SubF.frz rfl rfl rfl rfl (Nat.le_of_eq (Nat.zero_add _)) rfl rfl ?_)
    rintro Q hQ i hi
    have hpa : ∀ r, r < l.list.length → (pushX l lane.toNat cost).list.getD r default = if r = lane.toNat then ⟨(l.list.getD lane.toNat default).weight, (l.list.getD lane.toNat default).deficit, (l.list.getD lane.toNat default).costs ++ [cost]⟩ else l.list.getD r default := fun r hr => setL_getD hr
    repeat' first
      | (with_reducible first | refine NeedI.mk (fun h => h) ?_ | refine NeedI.mk (fun h => h.2) ?_ | refine NeedI.mk (fun h => h.1) ?_ | exact Done.mk | refine Both.mk (fun _ => ?_) (fun _ => ?_) | refine Both2.mk (fun _ => ?_) ?_ | refine Need.mk (by first | omega | with_reducible exact CEq.refl _ | (dsimp only; omega) | (dsimp only [rng]; omega) | (simp only [decide_eq_true_eq, decide_eq_false_iff_not, Bool.or_eq_true, Bool.and_eq_true, Bool.or_eq_false_iff, Int.toNat_natCast, addN_eq, cond_false, cond_true, rng] at *; omega) | exact ⟨rfl, rfl⟩) ?_)
      | ((with_reducible refine Need.mk ?_ ?_); exact CEq.refl _)
      | ((with_reducible fail_if_success first | refine LoopVC.mk ?_ | refine Need.mk ?_ ?_ | refine CallVC.mk ?_ | refine LoopEnd.mk ?_ | refine Out.mk ?_ | show False | refine NeedI.mk ?_ ?_); conv => whnf)
    · rename_i g1 g2
      have g1 : i < l.list.length := by have := of_decide_eq_true g1; omega
      have g2 : i = lane.toNat := by have := of_decide_eq_true g2; omega
      have hci := hsm.2 _ (getD_mem g1)
      refine Need.mk (by rw [Int.toNat_natCast]; omega) ?_
      repeat' first
        | (with_reducible first | refine NeedI.mk (fun h => h) ?_ | refine NeedI.mk (fun h => h.2) ?_ | refine NeedI.mk (fun h => h.1) ?_ | exact Done.mk | refine Both.mk (fun _ => ?_) (fun _ => ?_) | refine Both2.mk (fun _ => ?_) ?_ | refine Need.mk (by first | omega | with_reducible exact CEq.refl _ | (dsimp only; omega) | (dsimp only [rng]; omega) | (simp only [decide_eq_true_eq, decide_eq_false_iff_not, Bool.or_eq_true, Bool.and_eq_true, Bool.or_eq_false_iff, Int.toNat_natCast, addN_eq, cond_false, cond_true, rng] at *; omega) | exact ⟨rfl, rfl⟩) ?_)
        | ((with_reducible refine Need.mk ?_ ?_); exact CEq.refl _)
        | ((with_reducible fail_if_success first | refine LoopVC.mk ?_ | refine Need.mk ?_ ?_ | refine CallVC.mk ?_ | refine LoopEnd.mk ?_ | refine Out.mk ?_ | show False | refine NeedI.mk ?_ ?_); conv => whnf)
      refine LoopEnd.mk ⟨i + 1, g1, by omega, ?_⟩
      (refine Le.of ?_ ?_ <;> repeat' first | exact trivial | exact CEq.refl _ | exact rfl | exact cI (by push_cast; first | rfl | omega) | exact SubE.dat fun _ _ _ _ => CEq.refl _ | refine SubE.var2 ?_ ?_ | refine SubE.var1 ?_ | refine SubE.var3 ?_ ?_ ?_ | refine SubE.var4 ?_ ?_ ?_ ?_ | refine SubE.var5 ?_ ?_ ?_ ?_ ?_ | refine Exists.intro _ (And.intro rfl ?_) | refine And.intro ?_ ?_)
      refine SubE.dat fun r hr j hj => ?_
      have hr : r < i + 1 := hr
      rw [appC_at]
      by_cases e : i ≤ r
      · rw [if_pos e]
        obtain rfl : r = i := by omega
        rw [Nat.sub_self, hpa r g1, if_pos g2, ← g2]
        have hj : j < 3 := hj
        rcases (show j = 0 ∨ j = 1 ∨ j = 2 by omega) with rfl | rfl | rfl
        · exact CEq.refl _
        · exact CEq.refl _
        · exact (((IsL.app (size := 1) (enc := intE) (l := []) (len := 0) IsL.nil rfl (IsL.refl (l := (l.list.getD r default).costs))).app (len := 0 + (l.list.getD r default).costs.length) (by simp) (IsL.one (x := cost) fun j hj => by (obtain rfl : j = 0 := by omega); exact CEq.refl _)).off.ceq (n := 0 + (l.list.getD r default).costs.length + 1) (by simp))
      · rw [if_neg e]; exact CEq.refl _
    · rename_i g1 g2
      have g1 : i < l.list.length := by have := of_decide_eq_true g1; omega
      have g2 : ¬ i = lane.toNat := by have := of_decide_eq_false g2; omega
      refine LoopEnd.mk ⟨i + 1, g1, by omega, ?_⟩
      (refine Le.of ?_ ?_ <;> repeat' first | exact trivial | exact CEq.refl _ | exact rfl | exact cI (by push_cast; first | rfl | omega) | exact SubE.dat fun _ _ _ _ => CEq.refl _ | refine SubE.var2 ?_ ?_ | refine SubE.var1 ?_ | refine SubE.var3 ?_ ?_ ?_ | refine SubE.var4 ?_ ?_ ?_ ?_ | refine SubE.var5 ?_ ?_ ?_ ?_ ?_ | refine Exists.intro _ (And.intro rfl ?_) | refine And.intro ?_ ?_)
      refine SubE.dat fun r hr j hj => ?_
      have hr : r < i + 1 := hr
      rw [appC_at]
      by_cases e : i ≤ r
      · rw [if_pos e]
        obtain rfl : r = i := by omega
        rw [Nat.sub_self, hpa r g1, if_neg g2]
        have hj : j < 3 := hj
        rcases (show j = 0 ∨ j = 1 ∨ j = 2 by omega) with rfl | rfl | rfl <;> exact CEq.refl _
      · rw [if_neg e]; exact CEq.refl _
    · rename_i g
      have g : i = l.list.length := by have := of_decide_eq_false g; omega
      refine Out.mk (hQ _ _ ?_)
      subst g
      have hwc : CEq (Cell.sl 3 l.list.length fun r j => lnE ((pushX l lane.toNat cost).list.getD r default) j) (slL 3 lnE (pushX l lane.toNat cost).list) := IsL.refl.ceq (List.length_set ..).symm
      repeat' first
        | (with_reducible first | refine NeedI.mk (fun h => h) ?_ | refine NeedI.mk (fun h => h.2) ?_ | refine NeedI.mk (fun h => h.1) ?_ | exact Done.mk | refine Both.mk (fun _ => ?_) (fun _ => ?_) | refine Both2.mk (fun _ => ?_) ?_ | refine Need.mk (by first | omega | with_reducible exact CEq.refl _ | (dsimp only; omega) | (dsimp only [rng]; omega) | (simp only [decide_eq_true_eq, decide_eq_false_iff_not, Bool.or_eq_true, Bool.and_eq_true, Bool.or_eq_false_iff, Int.toNat_natCast, addN_eq, cond_false, cond_true, rng] at *; omega) | exact ⟨rfl, rfl⟩) ?_)
        | ((with_reducible refine Need.mk ?_ ?_); exact CEq.refl _)
        | ((with_reducible fail_if_success first | refine LoopVC.mk ?_ | refine Need.mk ?_ ?_ | refine CallVC.mk ?_ | refine LoopEnd.mk ?_ | refine Out.mk ?_ | show False | refine NeedI.mk ?_ ?_); conv => whnf)
      refine CallVC.mk' (fun _ => rsame_ok K.k.m R.same (pushX l lane.toNat cost) p (by rw [e1]; omega) (fun x hx => by rw [e1] at hx; have := hps.2 x hx; omega)) (fun _ => .cons (.many fun j hj => by
        rcases (show j = 0 ∨ j = 1 ∨ j = 2 by omega) with rfl | rfl | rfl
        · exact CEq.trans (CEq.slice fun r hr j hj => by show CEq (lnE ((pushX l lane.toNat cost).list.getD (addN 0 r) default) j) _; rw [addN_eq, Nat.zero_add]; exact CEq.refl _) hwc
        · exact CEq.refl _
        · exact CEq.refl _) (.cons ((.many fun j hj => by (rcases (show j = 0 ∨ j = 1 ∨ j = 2 by omega) with rfl | rfl | rfl <;> exact CEq.refl _))) .nil)) ?_
      rw [decide_eq_true e1, e2]
      repeat' first
        | (with_reducible first | refine NeedI.mk (fun h => h) ?_ | refine NeedI.mk (fun h => h.2) ?_ | refine NeedI.mk (fun h => h.1) ?_ | exact Done.mk | refine Both.mk (fun _ => ?_) (fun _ => ?_) | refine Both2.mk (fun _ => ?_) ?_ | refine Need.mk (by first | omega | with_reducible exact CEq.refl _ | (dsimp only; omega) | (dsimp only [rng]; omega) | (simp only [decide_eq_true_eq, decide_eq_false_iff_not, Bool.or_eq_true, Bool.and_eq_true, Bool.or_eq_false_iff, Int.toNat_natCast, addN_eq, cond_false, cond_true, rng] at *; omega) | exact ⟨rfl, rfl⟩) ?_)
        | ((with_reducible refine Need.mk ?_ ?_); exact CEq.refl _)
        | ((with_reducible fail_if_success first | refine LoopVC.mk ?_ | refine Need.mk ?_ ?_ | refine CallVC.mk ?_ | refine LoopEnd.mk ?_ | refine Out.mk ?_ | show False | refine NeedI.mk ?_ ?_); conv => whnf)
      refine CallVC.mk' (fun _ => awake_ok K) (fun _ => .nil) ?_
      repeat' first
        | (with_reducible first | refine NeedI.mk (fun h => h) ?_ | refine NeedI.mk (fun h => h.2) ?_ | refine NeedI.mk (fun h => h.1) ?_ | exact Done.mk | refine Both.mk (fun _ => ?_) (fun _ => ?_) | refine Both2.mk (fun _ => ?_) ?_ | refine Need.mk (by first | omega | with_reducible exact CEq.refl _ | (dsimp only; omega) | (dsimp only [rng]; omega) | (simp only [decide_eq_true_eq, decide_eq_false_iff_not, Bool.or_eq_true, Bool.and_eq_true, Bool.or_eq_false_iff, Int.toNat_natCast, addN_eq, cond_false, cond_true, rng] at *; omega) | exact ⟨rfl, rfl⟩) ?_)
        | ((with_reducible refine Need.mk ?_ ?_); exact CEq.refl _)
        | ((with_reducible fail_if_success first | refine LoopVC.mk ?_ | refine Need.mk ?_ ?_ | refine CallVC.mk ?_ | refine LoopEnd.mk ?_ | refine Out.mk ?_ | show False | refine NeedI.mk ?_ ?_); conv => whnf)
  · rw [decide_eq_false hno, if_neg hno]
    repeat' first
      | (with_reducible first | refine NeedI.mk (fun h => h) ?_ | refine NeedI.mk (fun h => h.2) ?_ | refine NeedI.mk (fun h => h.1) ?_ | exact Done.mk | refine Both.mk (fun _ => ?_) (fun _ => ?_) | refine Both2.mk (fun _ => ?_) ?_ | refine Need.mk (by first | omega | with_reducible exact CEq.refl _ | (dsimp only; omega) | (dsimp only [rng]; omega) | (simp only [decide_eq_true_eq, decide_eq_false_iff_not, Bool.or_eq_true, Bool.and_eq_true, Bool.or_eq_false_iff, Int.toNat_natCast, addN_eq, cond_false, cond_true, rng] at *; omega) | exact ⟨rfl, rfl⟩) ?_)
      | ((with_reducible refine Need.mk ?_ ?_); exact CEq.refl _)
      | ((with_reducible fail_if_success first | refine LoopVC.mk ?_ | refine Need.mk ?_ ?_ | refine CallVC.mk ?_ | refine LoopEnd.mk ?_ | refine Out.mk ?_ | show False | refine NeedI.mk ?_ ?_); conv => whnf)
    refine CallVC.mk' (args' := []) (res := [.one (.im (.bool true))]) (fun hx => absurd hx.2 (by decide)) (fun hx => absurd hx.2 (by decide)) ?_
    repeat' first
      | (with_reducible first | refine NeedI.mk (fun h => h) ?_ | refine NeedI.mk (fun h => h.2) ?_ | refine NeedI.mk (fun h => h.1) ?_ | exact Done.mk | refine Both.mk (fun _ => ?_) (fun _ => ?_) | refine Both2.mk (fun _ => ?_) ?_ | refine Need.mk (by first | omega | with_reducible exact CEq.refl _ | (dsimp only; omega) | (dsimp only [rng]; omega) | (simp only [decide_eq_true_eq, decide_eq_false_iff_not, Bool.or_eq_true, Bool.and_eq_true, Bool.or_eq_false_iff, Int.toNat_natCast, addN_eq, cond_false, cond_true, rng] at *; omega) | exact ⟨rfl, rfl⟩) ?_)
      | ((with_reducible refine Need.mk ?_ ?_); exact CEq.refl _)
      | ((with_reducible fail_if_success first | refine LoopVC.mk ?_ | refine Need.mk ?_ ?_ | refine CallVC.mk ?_ | refine LoopEnd.mk ?_ | refine Out.mk ?_ | show False | refine NeedI.mk ?_ ?_); conv => whnf)
    · rename_i h; exfalso; rw [hnn hno] at h; simp at h
    rename_i hx
    clear hx hwc hwcs hdr hne hnw hnn hnr hnl hns hwr
    refine CallVC.mk' (fun _ => push_ok K.k l lane cost hT) (fun _ => .cons ((.many fun j hj => by (rcases (show j = 0 ∨ j = 1 ∨ j = 2 by omega) with rfl | rfl | rfl <;> exact CEq.refl _))) (.cons (.one (CEq.refl _)) (.cons (.one (CEq.refl _)) .nil))) ?_
    have hpr := push_ref (k := lane) (c := cost) hg1
    have hprl := refL_ok hpr
    have hps := hpr.small
    have hf1 : ¬ pushOk l lane cost → l = pushL l lane cost ∧ pushE l lane cost = 1 := fun x => by
      have e : pushE l lane cost = 1 := if_neg x
      exact ⟨by unfold pushL; rw [if_neg (by rw [e]; decide)], e⟩
    have hf7 : pushOk l lane cost → 200 ≤ (l.list.getD lane.toNat default).costs.length → l = pushL l lane cost ∧ pushE l lane cost = 7 := fun x y => by
      have e : pushE l lane cost = 7 := by unfold pushE; rw [if_pos x, if_pos y]
      exact ⟨by unfold pushL; rw [if_neg (by rw [e]; decide)], e⟩
    have hf0 : pushOk l lane cost → (l.list.getD lane.toNat default).costs.length < 200 → pushX l lane.toNat cost = pushL l lane cost ∧ pushE l lane cost = 0 := fun x y => by
      have e : pushE l lane cost = 0 := by unfold pushE; rw [if_pos x, if_neg (by omega)]
      exact ⟨by unfold pushL; rw [if_pos e], e⟩
    generalize hpl : pushL l lane cost = p at *
    generalize hpe : pushE l lane cost = f at *
    repeat' first
      | (with_reducible first | refine NeedI.mk (fun h => h) ?_ | refine NeedI.mk (fun h => h.2) ?_ | refine NeedI.mk (fun h => h.1) ?_ | exact Done.mk | refine Both.mk (fun _ => ?_) (fun _ => ?_) | refine Both2.mk (fun _ => ?_) ?_ | refine Need.mk (by first | omega | with_reducible exact CEq.refl _ | (dsimp only; omega) | (dsimp only [rng]; omega) | (simp only [decide_eq_true_eq, decide_eq_false_iff_not, Bool.or_eq_true, Bool.and_eq_true, Bool.or_eq_false_iff, Int.toNat_natCast, addN_eq, cond_false, cond_true, rng] at *; omega) | exact ⟨rfl, rfl⟩) ?_)
      | ((with_reducible refine Need.mk ?_ ?_); exact CEq.refl _)
      | ((with_reducible fail_if_success first | refine LoopVC.mk ?_ | refine Need.mk ?_ ?_ | refine CallVC.mk ?_ | refine LoopEnd.mk ?_ | refine Out.mk ?_ | show False | refine NeedI.mk ?_ ?_); conv => whnf)
    refine CallVC.mk' (fun _ => ref_ok K.k.m R.ref p (by omega) (fun x hx => by have := hps.2 x hx; omega)) (fun _ => .cons ((.many fun j hj => by (rcases (show j = 0 ∨ j = 1 ∨ j = 2 by omega) with rfl | rfl | rfl <;> exact CEq.refl _))) .nil) ?_
    rw [hprl, decide_eq_true hpr]
    repeat' first
      | (with_reducible first | refine NeedI.mk (fun h => h) ?_ | refine NeedI.mk (fun h => h.2) ?_ | refine NeedI.mk (fun h => h.1) ?_ | exact Done.mk | refine Both.mk (fun _ => ?_) (fun _ => ?_) | refine Both2.mk (fun _ => ?_) ?_ | refine Need.mk (by first | omega | with_reducible exact CEq.refl _ | (dsimp only; omega) | (dsimp only [rng]; omega) | (simp only [decide_eq_true_eq, decide_eq_false_iff_not, Bool.or_eq_true, Bool.and_eq_true, Bool.or_eq_false_iff, Int.toNat_natCast, addN_eq, cond_false, cond_true, rng] at *; omega) | exact ⟨rfl, rfl⟩) ?_)
      | ((with_reducible refine Need.mk ?_ ?_); exact CEq.refl _)
      | ((with_reducible fail_if_success first | refine LoopVC.mk ?_ | refine Need.mk ?_ ?_ | refine CallVC.mk ?_ | refine LoopEnd.mk ?_ | refine Out.mk ?_ | show False | refine NeedI.mk ?_ ?_); conv => whnf)
    refine CallVC.mk' (fun _ => rright_ok K.k.m R.right l hT.n hT.c) (fun _ => .cons ((.many fun j hj => by (rcases (show j = 0 ∨ j = 1 ∨ j = 2 by omega) with rfl | rfl | rfl <;> exact CEq.refl _))) .nil) ?_
    repeat' first
      | (with_reducible first | refine NeedI.mk (fun h => h) ?_ | refine NeedI.mk (fun h => h.2) ?_ | refine NeedI.mk (fun h => h.1) ?_ | exact Done.mk | refine Both.mk (fun _ => ?_) (fun _ => ?_) | refine Both2.mk (fun _ => ?_) ?_ | refine Need.mk (by first | omega | with_reducible exact CEq.refl _ | (dsimp only; omega) | (dsimp only [rng]; omega) | (simp only [decide_eq_true_eq, decide_eq_false_iff_not, Bool.or_eq_true, Bool.and_eq_true, Bool.or_eq_false_iff, Int.toNat_natCast, addN_eq, cond_false, cond_true, rng] at *; omega) | exact ⟨rfl, rfl⟩) ?_)
      | ((with_reducible refine Need.mk ?_ ?_); exact CEq.refl _)
      | ((with_reducible fail_if_success first | refine LoopVC.mk ?_ | refine Need.mk ?_ ?_ | refine CallVC.mk ?_ | refine LoopEnd.mk ?_ | refine Out.mk ?_ | show False | refine NeedI.mk ?_ ?_); conv => whnf)
    refine CallVC.mk' (fun _ => right_ok K.k.m K.k.right l hT) (fun _ => .cons ((.many fun j hj => by (rcases (show j = 0 ∨ j = 1 ∨ j = 2 by omega) with rfl | rfl | rfl <;> exact CEq.refl _))) .nil) ?_
    repeat' first
      | (with_reducible first | refine NeedI.mk (fun h => h) ?_ | refine NeedI.mk (fun h => h.2) ?_ | refine NeedI.mk (fun h => h.1) ?_ | exact Done.mk | refine Both.mk (fun _ => ?_) (fun _ => ?_) | refine Both2.mk (fun _ => ?_) ?_ | refine Need.mk (by first | omega | with_reducible exact CEq.refl _ | (dsimp only; omega) | (dsimp only [rng]; omega) | (simp only [decide_eq_true_eq, decide_eq_false_iff_not, Bool.or_eq_true, Bool.and_eq_true, Bool.or_eq_false_iff, Int.toNat_natCast, addN_eq, cond_false, cond_true, rng] at *; omega) | exact ⟨rfl, rfl⟩) ?_)
      | ((with_reducible refine Need.mk ?_ ?_); exact CEq.refl _)
      | ((with_reducible fail_if_success first | refine LoopVC.mk ?_ | refine Need.mk ?_ ?_ | refine CallVC.mk ?_ | refine LoopEnd.mk ?_ | refine Out.mk ?_ | show False | refine NeedI.mk ?_ ?_); conv => whnf)
    · rename_i h; exfalso; simp at h
    · rename_i h
      have hno2 : ¬ pushOk l lane cost := fun x => by
        obtain ⟨a, ⟨b1, b2⟩, c1, c2⟩ := x
        rw [decide_eq_true a] at h
        simp only [Bool.not_true, Bool.false_or, Bool.or_eq_true, decide_eq_true_eq] at h; omega
      obtain ⟨e1, e2⟩ := hf1 hno2
      refine CallVC.mk' (fun _ => rsame_ok K.k.m R.same l p (by omega) hT.c) (fun _ => .cons ((.many fun j hj => by (rcases (show j = 0 ∨ j = 1 ∨ j = 2 by omega) with rfl | rfl | rfl <;> exact CEq.refl _))) (.cons ((.many fun j hj => by (rcases (show j = 0 ∨ j = 1 ∨ j = 2 by omega) with rfl | rfl | rfl <;> exact CEq.refl _))) .nil)) ?_
      rw [decide_eq_true e1, e2]
      repeat' first
        | (with_reducible first | refine NeedI.mk (fun h => h) ?_ | refine NeedI.mk (fun h => h.2) ?_ | refine NeedI.mk (fun h => h.1) ?_ | exact Done.mk | refine Both.mk (fun _ => ?_) (fun _ => ?_) | refine Both2.mk (fun _ => ?_) ?_ | refine Need.mk (by first | omega | with_reducible exact CEq.refl _ | (dsimp only; omega) | (dsimp only [rng]; omega) | (simp only [decide_eq_true_eq, decide_eq_false_iff_not, Bool.or_eq_true, Bool.and_eq_true, Bool.or_eq_false_iff, Int.toNat_natCast, addN_eq, cond_false, cond_true, rng] at *; omega) | exact ⟨rfl, rfl⟩) ?_)
        | ((with_reducible refine Need.mk ?_ ?_); exact CEq.refl _)
        | ((with_reducible fail_if_success first | refine LoopVC.mk ?_ | refine Need.mk ?_ ?_ | refine CallVC.mk ?_ | refine LoopEnd.mk ?_ | refine Out.mk ?_ | show False | refine NeedI.mk ?_ ?_); conv => whnf)
      refine CallVC.mk' (fun _ => awake_ok K) (fun _ => .nil) ?_
      repeat' first
        | (with_reducible first | refine NeedI.mk (fun h => h) ?_ | refine NeedI.mk (fun h => h.2) ?_ | refine NeedI.mk (fun h => h.1) ?_ | exact Done.mk | refine Both.mk (fun _ => ?_) (fun _ => ?_) | refine Both2.mk (fun _ => ?_) ?_ | refine Need.mk (by first | omega | with_reducible exact CEq.refl _ | (dsimp only; omega) | (dsimp only [rng]; omega) | (simp only [decide_eq_true_eq, decide_eq_false_iff_not, Bool.or_eq_true, Bool.and_eq_true, Bool.or_eq_false_iff, Int.toNat_natCast, addN_eq, cond_false, cond_true, rng] at *; omega) | exact ⟨rfl, rfl⟩) ?_)
        | ((with_reducible refine Need.mk ?_ ?_); exact CEq.refl _)
        | ((with_reducible fail_if_success first | refine LoopVC.mk ?_ | refine Need.mk ?_ ?_ | refine CallVC.mk ?_ | refine LoopEnd.mk ?_ | refine Out.mk ?_ | show False | refine NeedI.mk ?_ ?_); conv => whnf)
    · rename_i h h7
      have h7 : (l.list.getD lane.toNat default).costs.length = 200 := by have := of_decide_eq_true h7; omega
      simp only [Bool.or_eq_false_iff, Bool.not_eq_false', decide_eq_true_eq, decide_eq_false_iff_not] at h
      have hok : pushOk l lane cost := ⟨h.1.1.1.1, ⟨by omega, by omega⟩, by omega, by omega⟩
      obtain ⟨e1, e2⟩ := hf7 hok (by omega)
      refine CallVC.mk' (fun _ => rsame_ok K.k.m R.same l p (by omega) hT.c) (fun _ => .cons ((.many fun j hj => by (rcases (show j = 0 ∨ j = 1 ∨ j = 2 by omega) with rfl | rfl | rfl <;> exact CEq.refl _))) (.cons ((.many fun j hj => by (rcases (show j = 0 ∨ j = 1 ∨ j = 2 by omega) with rfl | rfl | rfl <;> exact CEq.refl _))) .nil)) ?_
      rw [decide_eq_true e1, e2]
      repeat' first
        | (with_reducible first | refine NeedI.mk (fun h => h) ?_ | refine NeedI.mk (fun h => h.2) ?_ | refine NeedI.mk (fun h => h.1) ?_ | exact Done.mk | refine Both.mk (fun _ => ?_) (fun _ => ?_) | refine Both2.mk (fun _ => ?_) ?_ | refine Need.mk (by first | omega | with_reducible exact CEq.refl _ | (dsimp only; omega) | (dsimp only [rng]; omega) | (simp only [decide_eq_true_eq, decide_eq_false_iff_not, Bool.or_eq_true, Bool.and_eq_true, Bool.or_eq_false_iff, Int.toNat_natCast, addN_eq, cond_false, cond_true, rng] at *; omega) | exact ⟨rfl, rfl⟩) ?_)
        | ((with_reducible refine Need.mk ?_ ?_); exact CEq.refl _)
        | ((with_reducible fail_if_success first | refine LoopVC.mk ?_ | refine Need.mk ?_ ?_ | refine CallVC.mk ?_ | refine LoopEnd.mk ?_ | refine Out.mk ?_ | show False | refine NeedI.mk ?_ ?_); conv => whnf)
      refine CallVC.mk' (fun _ => awake_ok K) (fun _ => .nil) ?_
      repeat' first
        | (with_reducible first | refine NeedI.mk (fun h => h) ?_ | refine NeedI.mk (fun h => h.2) ?_ | refine NeedI.mk (fun h => h.1) ?_ | exact Done.mk | refine Both.mk (fun _ => ?_) (fun _ => ?_) | refine Both2.mk (fun _ => ?_) ?_ | refine Need.mk (by first | omega | with_reducible exact CEq.refl _ | (dsimp only; omega) | (dsimp only [rng]; omega) | (simp only [decide_eq_true_eq, decide_eq_false_iff_not, Bool.or_eq_true, Bool.and_eq_true, Bool.or_eq_false_iff, Int.toNat_natCast, addN_eq, cond_false, cond_true, rng] at *; omega) | exact ⟨rfl, rfl⟩) ?_)
        | ((with_reducible refine Need.mk ?_ ?_); exact CEq.refl _)
        | ((with_reducible fail_if_success first | refine LoopVC.mk ?_ | refine Need.mk ?_ ?_ | refine CallVC.mk ?_ | refine LoopEnd.mk ?_ | refine Out.mk ?_ | show False | refine NeedI.mk ?_ ?_); conv => whnf)
    rename_i h h7
    have h7 : ¬ (l.list.getD lane.toNat default).costs.length = 200 := by have := of_decide_eq_false h7; omega
    simp only [Bool.or_eq_false_iff, Bool.not_eq_false', decide_eq_true_eq, decide_eq_false_iff_not] at h
    have hok : pushOk l lane cost := ⟨h.1.1.1.1, ⟨by omega, by omega⟩, by omega, by omega⟩
    have h200 := (h.1.1.1.1.2.2 lane.toNat (by omega)).2.2.1
    obtain ⟨e1, e2⟩ := hf0 hok (by omega)
    refine LoopVC.inv (fun i : Nat => i ≤ l.list.length) (fun i => stL [(2, .c (.int .i64 lane)), (3, .c (.int .i64 cost)), (19, .c (.int .i64 f)), (20, .va 20 0 0), (23, .va 23 0 0), (170, .c (slL 3 lnE l.list)), (171, .c (.int .i64 l.list.length)), (172, .c (.int .i64 i))]
      [(20, vE [.c (slL 3 lnE p.list), .c (.int .i64 p.at_), .c (.bool p.given)]), (23, vE [.os 192 0 3 0 i, .c (.int .i64 l.at_), .c (.bool l.given)]), (192, ⟨3, i, .dat fun r j => lnE ((pushX l lane.toNat cost).list.getD r default) j, false, true⟩)]) (fun i => l.list.length - i) 0 (Nat.zero_le _) ?_ ?_
    · (refine Le.ofN [192] ?_ ?_ <;> repeat' first | exact trivial | exact SubF.inr ⟨_, _, _, rfl, rfl, rfl⟩ | exact SubF.inl (cI (by push_cast; first | rfl | omega)) | exact SubF.inl (CEq.refl _) | exact SubF.inl rfl | exact SubF.inl trivial | exact SubF.inl ⟨rfl, rfl, rfl⟩ | exact SubF.inl ⟨rfl, rfl, rfl, rfl, rfl⟩ | exact Or.inl ⟨rfl, rfl⟩ | refine Or.inr ⟨rfl, _, rfl, ?_⟩ | refine SubEF.var2 ?_ ?_ | refine SubEF.var1 ?_ | refine SubEF.var3 ?_ ?_ ?_ | refine SubEF.var4 ?_ ?_ ?_ ?_ | exact SubEF.of (SubE.dat fun _ _ _ _ => CEq.refl _) | refine And.intro ?_ ?_ | refine SubF.frz rfl rfl rfl rfl (Nat.le_of_eq (Nat.zero_add _)) rfl rfl ?_)
    rintro Q hQ i hi
    have hpa : ∀ r, r < l.list.length → (pushX l lane.toNat cost).list.getD r default = if r = lane.toNat then ⟨(l.list.getD lane.toNat default).weight, (l.list.getD lane.toNat default).deficit, (l.list.getD lane.toNat default).costs ++ [cost]⟩ else l.list.getD r default := fun r hr => setL_getD hr
    repeat' first
      | (with_reducible first | refine NeedI.mk (fun h => h) ?_ | refine NeedI.mk (fun h => h.2) ?_ | refine NeedI.mk (fun h => h.1) ?_ | exact Done.mk | refine Both.mk (fun _ => ?_) (fun _ => ?_) | refine Both2.mk (fun _ => ?_) ?_ | refine Need.mk (by first | omega | with_reducible exact CEq.refl _ | (dsimp only; omega) | (dsimp only [rng]; omega) | (simp only [decide_eq_true_eq, decide_eq_false_iff_not, Bool.or_eq_true, Bool.and_eq_true, Bool.or_eq_false_iff, Int.toNat_natCast, addN_eq, cond_false, cond_true, rng] at *; omega) | exact ⟨rfl, rfl⟩) ?_)
      | ((with_reducible refine Need.mk ?_ ?_); exact CEq.refl _)
      | ((with_reducible fail_if_success first | refine LoopVC.mk ?_ | refine Need.mk ?_ ?_ | refine CallVC.mk ?_ | refine LoopEnd.mk ?_ | refine Out.mk ?_ | show False | refine NeedI.mk ?_ ?_); conv => whnf)
    · rename_i g1 g2
      have g1 : i < l.list.length := by have := of_decide_eq_true g1; omega
      have g2 : i = lane.toNat := by have := of_decide_eq_true g2; omega
      have hci := hsm.2 _ (getD_mem g1)
      refine Need.mk (by rw [Int.toNat_natCast]; omega) ?_
      repeat' first
        | (with_reducible first | refine NeedI.mk (fun h => h) ?_ | refine NeedI.mk (fun h => h.2) ?_ | refine NeedI.mk (fun h => h.1) ?_ | exact Done.mk | refine Both.mk (fun _ => ?_) (fun _ => ?_) | refine Both2.mk (fun _ => ?_) ?_ | refine Need.mk (by first | omega | with_reducible exact CEq.refl _ | (dsimp only; omega) | (dsimp only [rng]; omega) | (simp only [decide_eq_true_eq, decide_eq_false_iff_not, Bool.or_eq_true, Bool.and_eq_true, Bool.or_eq_false_iff, Int.toNat_natCast, addN_eq, cond_false, cond_true, rng] at *; omega) | exact ⟨rfl, rfl⟩) ?_)
        | ((with_reducible refine Need.mk ?_ ?_); exact CEq.refl _)
        | ((with_reducible fail_if_success first | refine LoopVC.mk ?_ | refine Need.mk ?_ ?_ | refine CallVC.mk ?_ | refine LoopEnd.mk ?_ | refine Out.mk ?_ | show False | refine NeedI.mk ?_ ?_); conv => whnf)
      refine LoopEnd.mk ⟨i + 1, g1, by omega, ?_⟩
      (refine Le.of ?_ ?_ <;> repeat' first | exact trivial | exact CEq.refl _ | exact rfl | exact cI (by push_cast; first | rfl | omega) | exact SubE.dat fun _ _ _ _ => CEq.refl _ | refine SubE.var2 ?_ ?_ | refine SubE.var1 ?_ | refine SubE.var3 ?_ ?_ ?_ | refine SubE.var4 ?_ ?_ ?_ ?_ | refine SubE.var5 ?_ ?_ ?_ ?_ ?_ | refine Exists.intro _ (And.intro rfl ?_) | refine And.intro ?_ ?_)
      refine SubE.dat fun r hr j hj => ?_
      have hr : r < i + 1 := hr
      rw [appC_at]
      by_cases e : i ≤ r
      · rw [if_pos e]
        obtain rfl : r = i := by omega
        rw [Nat.sub_self, hpa r g1, if_pos g2, ← g2]
        have hj : j < 3 := hj
        rcases (show j = 0 ∨ j = 1 ∨ j = 2 by omega) with rfl | rfl | rfl
        · exact CEq.refl _
        · exact CEq.refl _
        · exact (((IsL.app (size := 1) (enc := intE) (l := []) (len := 0) IsL.nil rfl (IsL.refl (l := (l.list.getD r default).costs))).app (len := 0 + (l.list.getD r default).costs.length) (by simp) (IsL.one (x := cost) fun j hj => by (obtain rfl : j = 0 := by omega); exact CEq.refl _)).off.ceq (n := 0 + (l.list.getD r default).costs.length + 1) (by simp))
      · rw [if_neg e]; exact CEq.refl _
    · rename_i g1 g2
      have g1 : i < l.list.length := by have := of_decide_eq_true g1; omega
      have g2 : ¬ i = lane.toNat := by have := of_decide_eq_false g2; omega
      refine LoopEnd.mk ⟨i + 1, g1, by omega, ?_⟩
      (refine Le.of ?_ ?_ <;> repeat' first | exact trivial | exact CEq.refl _ | exact rfl | exact cI (by push_cast; first | rfl | omega) | exact SubE.dat fun _ _ _ _ => CEq.refl _ | refine SubE.var2 ?_ ?_ | refine SubE.var1 ?_ | refine SubE.var3 ?_ ?_ ?_ | refine SubE.var4 ?_ ?_ ?_ ?_ | refine SubE.var5 ?_ ?_ ?_ ?_ ?_ | refine Exists.intro _ (And.intro rfl ?_) | refine And.intro ?_ ?_)
      refine SubE.dat fun r hr j hj => ?_
      have hr : r < i + 1 := hr
      rw [appC_at]
      by_cases e : i ≤ r
      · rw [if_pos e]
        obtain rfl : r = i := by omega
        rw [Nat.sub_self, hpa r g1, if_neg g2]
        have hj : j < 3 := hj
        rcases (show j = 0 ∨ j = 1 ∨ j = 2 by omega) with rfl | rfl | rfl <;> exact CEq.refl _
      · rw [if_neg e]; exact CEq.refl _
    · rename_i g
      have g : i = l.list.length := by have := of_decide_eq_false g; omega
      refine Out.mk (hQ _ _ ?_)
      subst g
      have hwc : CEq (Cell.sl 3 l.list.length fun r j => lnE ((pushX l lane.toNat cost).list.getD r default) j) (slL 3 lnE (pushX l lane.toNat cost).list) := IsL.refl.ceq (List.length_set ..).symm
      repeat' first
        | (with_reducible first | refine NeedI.mk (fun h => h) ?_ | refine NeedI.mk (fun h => h.2) ?_ | refine NeedI.mk (fun h => h.1) ?_ | exact Done.mk | refine Both.mk (fun _ => ?_) (fun _ => ?_) | refine Both2.mk (fun _ => ?_) ?_ | refine Need.mk (by first | omega | with_reducible exact CEq.refl _ | (dsimp only; omega) | (dsimp only [rng]; omega) | (simp only [decide_eq_true_eq, decide_eq_false_iff_not, Bool.or_eq_true, Bool.and_eq_true, Bool.or_eq_false_iff, Int.toNat_natCast, addN_eq, cond_false, cond_true, rng] at *; omega) | exact ⟨rfl, rfl⟩) ?_)
        | ((with_reducible refine Need.mk ?_ ?_); exact CEq.refl _)
        | ((with_reducible fail_if_success first | refine LoopVC.mk ?_ | refine Need.mk ?_ ?_ | refine CallVC.mk ?_ | refine LoopEnd.mk ?_ | refine Out.mk ?_ | show False | refine NeedI.mk ?_ ?_); conv => whnf)
      refine CallVC.mk' (fun _ => rsame_ok K.k.m R.same (pushX l lane.toNat cost) p (by rw [e1]; omega) (fun x hx => by rw [e1] at hx; have := hps.2 x hx; omega)) (fun _ => .cons (.many fun j hj => by
        rcases (show j = 0 ∨ j = 1 ∨ j = 2 by omega) with rfl | rfl | rfl
        · exact CEq.trans (CEq.slice fun r hr j hj => by show CEq (lnE ((pushX l lane.toNat cost).list.getD (addN 0 r) default) j) _; rw [addN_eq, Nat.zero_add]; exact CEq.refl _) hwc
        · exact CEq.refl _
        · exact CEq.refl _) (.cons ((.many fun j hj => by (rcases (show j = 0 ∨ j = 1 ∨ j = 2 by omega) with rfl | rfl | rfl <;> exact CEq.refl _))) .nil)) ?_
      rw [decide_eq_true e1, e2]
      repeat' first
        | (with_reducible first | refine NeedI.mk (fun h => h) ?_ | refine NeedI.mk (fun h => h.2) ?_ | refine NeedI.mk (fun h => h.1) ?_ | exact Done.mk | refine Both.mk (fun _ => ?_) (fun _ => ?_) | refine Both2.mk (fun _ => ?_) ?_ | refine Need.mk (by first | omega | with_reducible exact CEq.refl _ | (dsimp only; omega) | (dsimp only [rng]; omega) | (simp only [decide_eq_true_eq, decide_eq_false_iff_not, Bool.or_eq_true, Bool.and_eq_true, Bool.or_eq_false_iff, Int.toNat_natCast, addN_eq, cond_false, cond_true, rng] at *; omega) | exact ⟨rfl, rfl⟩) ?_)
        | ((with_reducible refine Need.mk ?_ ?_); exact CEq.refl _)
        | ((with_reducible fail_if_success first | refine LoopVC.mk ?_ | refine Need.mk ?_ ?_ | refine CallVC.mk ?_ | refine LoopEnd.mk ?_ | refine Out.mk ?_ | show False | refine NeedI.mk ?_ ?_); conv => whnf)
      refine CallVC.mk' (fun _ => awake_ok K) (fun _ => .nil) ?_
      repeat' first
        | (with_reducible first | refine NeedI.mk (fun h => h) ?_ | refine NeedI.mk (fun h => h.2) ?_ | refine NeedI.mk (fun h => h.1) ?_ | exact Done.mk | refine Both.mk (fun _ => ?_) (fun _ => ?_) | refine Both2.mk (fun _ => ?_) ?_ | refine Need.mk (by first | omega | with_reducible exact CEq.refl _ | (dsimp only; omega) | (dsimp only [rng]; omega) | (simp only [decide_eq_true_eq, decide_eq_false_iff_not, Bool.or_eq_true, Bool.and_eq_true, Bool.or_eq_false_iff, Int.toNat_natCast, addN_eq, cond_false, cond_true, rng] at *; omega) | exact ⟨rfl, rfl⟩) ?_)
        | ((with_reducible refine Need.mk ?_ ?_); exact CEq.refl _)
        | ((with_reducible fail_if_success first | refine LoopVC.mk ?_ | refine Need.mk ?_ ?_ | refine CallVC.mk ?_ | refine LoopEnd.mk ?_ | refine Out.mk ?_ | show False | refine NeedI.mk ?_ ?_); conv => whnf)
end
end Lk.S05
