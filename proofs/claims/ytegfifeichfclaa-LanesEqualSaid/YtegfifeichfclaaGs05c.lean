/-
  Gs05c: what these chapters need.
-/
import Derived.Test.YtegfifeichfclaaGs05b
set_option linter.unusedSimpArgs false
set_option linter.unusedVariables false
namespace Lk.S05
open Go Lk Lk.C
/-- Only one lane holds work. -/
structure AL (n k : Nat) (cs : List Int) (l : Ls) : Prop where
  r : right l
  nn : l.list.length = n
  kk : k < n
  cc : ∀ i, i < n → (l.list.getD i default).costs = if i = k then cs else []
variable {n k : Nat} {cs : List Int} {l : Ls}
theorem AL.waits (h : AL n k cs l) : waits l ↔ cs ≠ [] := by
  rw [← waits_fst, fstN_lt_iff]
  constructor
  · rintro ⟨i, hi, hb⟩ rfl
    have hb := of_decide_eq_true hb
    rw [h.cc i (by rw [← h.nn]; exact hi)] at hb
    split at hb <;> simp at hb
  · intro hc
    refine ⟨k, by rw [h.nn]; exact h.kk, decide_eq_true ?_⟩
    rw [h.cc k h.kk, if_pos rfl]
    exact List.length_pos_iff.2 hc
theorem AL.next (h : AL n k cs l) (hc : cs ≠ []) : nextOk l ∧ AL n k (cs.drop 1) (nextL l) ∧ nextA l = (k : Int) ∧ nextC l = cs.getD 0 default := by
  have hok : nextOk l := ⟨h.r, h.waits.2 hc⟩
  have := nx_ind (fun l => AL n k cs l) (fun l' c => AL n k (cs.drop 1) l' ∧ l'.at_ = (k : Int) ∧ c = cs.getD 0 default) (fun l m hr hw hJ ht => by
    have hm := (turn_none hr hw ht).1
    have ha : ∃ d, m = adv l d := by
      unfold turn at ht
      split at ht
      · exact ⟨_, (congrArg Prod.fst ht).symm⟩
      · split at ht
        · exact ⟨_, (congrArg Prod.fst ht).symm⟩
        · cases congrArg Prod.snd ht
    obtain ⟨d, rfl⟩ := ha
    refine ⟨hm, by rw [adv_len]; exact hJ.nn, hJ.kk, fun i hi => ?_⟩
    rw [adv_at (by rw [hJ.nn]; exact hi)]
    by_cases e : i = pos l
    · rw [if_pos e, ← hJ.cc i hi, e]; rfl
    · rw [if_neg e]; exact hJ.cc i hi) (fun l hr hJ hn hd => by
    have hp := hr.pos
    have hpn : pos l < n := by rw [← hJ.nn]; exact hp.1
    have hcp := hJ.cc (pos l) hpn
    have hk : pos l = k := Decidable.byContradiction fun x => hn (by show (l.list.getD (pos l) default).costs = []; rw [hcp, if_neg x])
    rw [if_pos hk] at hcp
    have hcu : (cur l).costs = cs := hcp
    refine ⟨⟨srv_right hr hn hd, by rw [srv_len]; exact hJ.nn, hJ.kk, fun i hi => ?_⟩, by rw [← hk]; exact hp.2.symm, by unfold hd0; rw [hcu]⟩
    rw [srv_at (by rw [hJ.nn]; exact hi), hcu]
    by_cases e : i = pos l
    · rw [if_pos e]; show cs.drop 1 = _; rw [if_pos (by omega)]
    · rw [if_neg e, if_neg (by omega), hJ.cc i hi, if_neg (by omega)]) h.r hok.2 h
  have e1 : nextL l = (nx l).1 := if_pos hok
  have e2 : nextC l = (nx l).2 := if_pos hok
  have e3 : nextA l = (nx l).1.at_ := if_pos hok
  rw [e1, e2, e3]
  exact ⟨hok, this.2.1, this.2.2.1, this.2.2.2⟩
theorem AL.push {c : Int} (h : AL n k cs l) (hc : 1 ≤ c ∧ c ≤ 8) (hl : cs.length < 200) : pushE l k c = 0 ∧ AL n k (cs ++ [c]) (pushL l k c) := by
  have hp : pushOk l k c := ⟨h.r, ⟨by omega, by rw [h.nn]; have := h.kk; omega⟩, hc.1, hc.2⟩
  have hck := h.cc k h.kk
  rw [if_pos rfl] at hck
  have he : pushE l k c = 0 := by
    unfold pushE; rw [if_pos hp, Int.toNat_natCast, hck, if_neg (by omega)]
  refine ⟨he, ?_⟩
  have e : pushL l k c = pushX l k c := by unfold pushL; rw [if_pos he, Int.toNat_natCast]
  rw [e]
  have hlen : (pushX l k c).list.length = l.list.length := List.length_set ..
  have hat : ∀ i, i < n → (pushX l k c).list.getD i default = if i = k then ⟨(l.list.getD k default).weight, (l.list.getD k default).deficit, (l.list.getD k default).costs ++ [c]⟩ else l.list.getD i default := fun i hi => setL_getD (by rw [h.nn]; exact hi)
  refine ⟨⟨by rw [hlen]; exact h.r.1, by rw [hlen]; exact h.r.2.1, fun i hi => ?_⟩, by rw [hlen]; exact h.nn, h.kk, fun i hi => ?_⟩
  · rw [hlen] at hi
    have hr := h.r.2.2 i hi
    have hm : mst (pushX l k c) i = mst l i := rfl
    rw [hm, hat i (by rw [← h.nn]; exact hi)]
    by_cases e : i = k
    · subst e
      rw [if_pos rfl]
      refine ⟨hr.1, hr.2.1, ?_, fun x hx => ?_⟩
      · show ((l.list.getD i default).costs ++ [c]).length ≤ 200
        rw [hck]; simp; omega
      · rcases List.mem_append.1 hx with hx | hx
        · exact hr.2.2.2 x hx
        · rw [List.mem_singleton.1 hx]; exact hc
    · rw [if_neg e]; exact hr
  · rw [hat i hi]
    by_cases e : i = k
    · rw [if_pos e, if_pos e, hck]
    · rw [if_neg e, if_neg e, h.cc i hi, if_neg e]
theorem AL.start {w : List Int} (hw : newOk w) (hk : k < w.length) : AL w.length k [] (newL w) := by
  have e := fl_new (costs := []) hw
  rw [e]
  refine ⟨fl_right hw (by omega), fl_len, hk, fun i hi => ?_⟩
  rw [fl_at hi]; unfold flL
  rw [if_neg (Nat.not_lt_zero i)]
  split <;> split <;> rfl
section
variable {P : Program} {F : Nat → Nat}
end
end Lk.S05
namespace Lk.S05
open Go Lk Lk.C
/-- While the lanes are filled. -/
structure EP (n : Nat) (c : Int) (i j : Nat) (l : Ls) : Prop where
  nn : l.list.length = n
  a0 : l.at_ = 0
  g0 : l.given = false
  ln : ∀ r, r < n → l.list.getD r default = ⟨1, 0, List.replicate (if r < i then 60 else if r = i then j else 0) c⟩
variable {n i j m e : Nat} {c : Int} {l : Ls}
theorem EP.right (h : EP n c i j l) (hn : 2 ≤ n ∧ n ≤ 6) (hc : 1 ≤ c ∧ c ≤ 8) (hj : j ≤ 60) : right l := by
  refine ⟨by rw [h.nn]; omega, by rw [h.nn, h.a0]; omega, fun r hr => ?_⟩
  rw [h.nn] at hr
  rw [h.ln r hr, show mst l r = 7 from if_neg fun x => by rw [h.g0] at x; exact absurd x.2 (by decide)]
  refine ⟨by show (1 : Int) ≤ 1 ∧ (1 : Int) ≤ 8; omega, by show (0 : Int) ≤ 0 ∧ (0 : Int) ≤ 7; omega, ?_, fun x hx => ?_⟩
  · show (List.replicate _ c).length ≤ 200
    rw [List.length_replicate]; split
    · decide
    · split <;> omega
  · rw [List.eq_of_mem_replicate hx]; exact hc
theorem EP.push (h : EP n c i j l) (hn : 2 ≤ n ∧ n ≤ 6) (hc : 1 ≤ c ∧ c ≤ 8) (hj : j < 60) (hi : i < n) : pushE l i c = 0 ∧ EP n c i (j + 1) (pushL l i c) := by
  have hp : pushOk l i c := ⟨h.right hn hc (by omega), ⟨by omega, by rw [h.nn]; omega⟩, hc.1, hc.2⟩
  have hck := h.ln i hi
  rw [if_neg (Nat.lt_irrefl i), if_pos rfl] at hck
  have he : pushE l i c = 0 := by
    unfold pushE; rw [if_pos hp, Int.toNat_natCast, hck]
    show (if (List.replicate j c).length ≥ 200 then (7 : Int) else 0) = 0
    rw [List.length_replicate, if_neg (by omega)]
  refine ⟨he, ?_⟩
  have e : pushL l i c = pushX l i c := by unfold pushL; rw [if_pos he, Int.toNat_natCast]
  rw [e]
  refine ⟨(List.length_set ..).trans h.nn, h.a0, h.g0, fun r hr => ?_⟩
  have : (pushX l i c).list.getD r default = if r = i then ⟨(l.list.getD i default).weight, (l.list.getD i default).deficit, (l.list.getD i default).costs ++ [c]⟩ else l.list.getD r default := setL_getD (by rw [h.nn]; exact hr)
  rw [this]
  by_cases e : r = i
  · rw [if_pos e, hck, if_neg (by omega), if_pos e, List.replicate_succ']
  · rw [if_neg e, h.ln r hr, if_neg e, if_neg e]
theorem EP.more (h : EP n c i 60 l) : EP n c (i + 1) 0 l := ⟨h.nn, h.a0, h.g0, fun r hr => by
  rw [h.ln r hr]; congr 2
  by_cases h1 : r < i
  · rw [if_pos h1, if_pos (by omega)]
  · rw [if_neg h1]
    by_cases h2 : r = i
    · rw [if_pos h2, if_pos (by omega)]
    · rw [if_neg h2, if_neg (by omega)]; split <;> rfl⟩
theorem EP.start (hn : 2 ≤ n ∧ n ≤ 6) : EP n c 0 0 (newL (List.replicate n 1)) ∧ newE (List.replicate n 1) = 0 := by
  have hw : newOk (List.replicate n (1 : Int)) := ⟨by rw [List.length_replicate]; omega, fun x hx => by rw [List.eq_of_mem_replicate hx]; omega⟩
  refine ⟨?_, if_pos hw⟩
  rw [show newL (List.replicate n 1) = ⟨(List.replicate n 1).map newLn, 0, false⟩ from if_pos hw]
  refine ⟨by simp, rfl, rfl, fun r hr => ?_⟩
  rw [getD_eq (by simpa using hr)]
  simp only [List.getElem_map, List.getElem_replicate]
  rw [if_neg (Nat.not_lt_zero r)]
  unfold newLn
  split <;> rfl
/-- While they are served. -/
structure JE (n : Nat) (c : Int) (e m : Nat) (l : Ls) : Prop where
  r : S05.right l
  nn : l.list.length = n
  ww : ∀ i, i < n → (l.list.getD i default).weight = 1
  cs : ∀ i, i < n → 60 ≤ (l.list.getD i default).costs.length + m ∧ ∀ x ∈ (l.list.getD i default).costs, x = c
  d : ∀ i, i < n → i ≠ pos l → (l.list.getD i default).deficit = 0
  s : (l.given = false ∧ (cur l).deficit = 0 ∧ ∃ q, m = e * q ∧ pos l = q % n) ∨ (l.given = true ∧ ∃ q s, 1 ≤ s ∧ s ≤ e ∧ m = e * q + s ∧ pos l = q % n ∧ (cur l).deficit = 4 - c * (s : Nat))
theorem JE.start (h : EP n c n 0 l) (hn : 2 ≤ n ∧ n ≤ 6) (hc : 1 ≤ c ∧ c ≤ 8) : JE n c e 0 l := by
  have hp : pos l = 0 := by unfold pos; rw [h.a0]; rfl
  refine ⟨h.right hn hc (by omega), h.nn, fun i hi => by rw [h.ln i hi], fun i hi => ?_, fun i hi _ => by rw [h.ln i hi], .inl ⟨h.g0, ?_, 0, rfl, by rw [hp, Nat.zero_mod]⟩⟩
  · rw [h.ln i hi, if_pos hi]
    exact ⟨by show 60 ≤ (List.replicate 60 c).length + 0; rw [List.length_replicate]; omega, fun x hx => List.eq_of_mem_replicate hx⟩
  · unfold cur; rw [hp, h.ln 0 (by omega)]
theorem JE.cur (h : JE n c e m l) (hm : m ≤ 59) : pos l < n ∧ (cur l).weight = 1 ∧ 60 ≤ (cur l).costs.length + m ∧ (cur l).costs ≠ [] ∧ hd0 l = c := by
  have hp : pos l < n := by rw [← h.nn]; exact h.r.pos.1
  have a := h.ww _ hp
  have b := h.cs _ hp
  have h60 : 60 ≤ (S05.cur l).costs.length + m := b.1
  have hne : (S05.cur l).costs ≠ [] := fun x => by rw [x] at h60; simp at h60; omega
  refine ⟨hp, a, h60, hne, ?_⟩
  unfold hd0
  exact b.2 _ (getD_mem (List.length_pos_iff.2 hne))
theorem JE.next (h : JE n c e m l) (hn : 2 ≤ n ∧ n ≤ 6) (hce : (c = 4 ∧ e = 1) ∨ (c = 2 ∧ e = 2)) (hm : m ≤ 59) : nextOk l ∧ (m ≤ 58 → JE n c e (m + 1) (nextL l)) ∧ nextA l = ((m / e % n : Nat) : Int) ∧ nextC l = c := by
  have hw : waits l := by
    rw [← waits_fst, fstN_lt_iff]
    obtain ⟨a, b, d, f, -⟩ := h.cur hm
    exact ⟨pos l, h.r.pos.1, decide_eq_true (List.length_pos_iff.2 f)⟩
  have hok : nextOk l := ⟨h.r, hw⟩
  have := nx_ind (fun l => JE n c e m l) (fun l' c' => (m ≤ 58 → JE n c e (m + 1) l') ∧ l'.at_ = ((m / e % n : Nat) : Int) ∧ c' = c) (fun l k hr hw hJ ht => by
    have hk := (turn_none hr hw ht).1
    obtain ⟨hp, w1, l1, hne, hh⟩ := hJ.cur hm
    unfold turn at ht
    rw [if_neg hne] at ht
    split at ht
    · rename_i hd
      obtain rfl : adv l (gv l) = k := congrArg Prod.fst ht
      rw [hh] at hd
      unfold gv at hd
      rw [w1] at hd
      rcases hJ.s with ⟨g, d0, -⟩ | ⟨g, q, s, s1, s2, mq, hq, ds⟩
      · rw [g, d0, if_neg (by decide)] at hd
        rcases hce with ⟨rfl, rfl⟩ | ⟨rfl, rfl⟩ <;> omega
      · rw [g, if_pos rfl, ds] at hd
        have hse : s = e := by rcases hce with ⟨rfl, rfl⟩ | ⟨rfl, rfl⟩ <;> omega
        have hg0 : gv l = 0 := by
          unfold gv; rw [g, if_pos rfl, ds]
          rcases hce with ⟨rfl, rfl⟩ | ⟨rfl, rfl⟩ <;> omega
        rw [hg0] at hk ⊢
        have hd' : ∀ i, i < n → ((adv l 0).list.getD i default).deficit = 0 := fun i hi => by
          rw [adv_at (by rw [hJ.nn]; exact hi)]
          by_cases e2 : i = pos l
          · rw [if_pos e2]
          · rw [if_neg e2]; exact hJ.d i hi e2
        have hpa := adv_pos (d := 0) hr
        rw [hJ.nn] at hpa
        refine ⟨hk, by rw [adv_len]; exact hJ.nn, fun i hi => ?_, fun i hi => ?_, fun i hi _ => hd' i hi, .inl ⟨rfl, hd' _ (by rw [hpa]; exact Nat.mod_lt _ (by omega)), q + 1, ?_, ?_⟩⟩
        · rw [adv_at (by rw [hJ.nn]; exact hi)]
          by_cases e2 : i = pos l
          · rw [if_pos e2]; exact w1
          · rw [if_neg e2]; exact hJ.ww i hi
        · rw [adv_at (by rw [hJ.nn]; exact hi)]
          by_cases e2 : i = pos l
          · rw [if_pos e2]; have := hJ.cs i hi; rw [e2] at this; exact this
          · rw [if_neg e2]; exact hJ.cs i hi
        · rw [mq, hse, Nat.mul_add, Nat.mul_one]
        · rw [hpa, hq, Nat.mod_add_mod]
    · cases congrArg Prod.snd ht) (fun l hr hJ hne hd => by
    obtain ⟨hp, w1, l1, -, hh⟩ := hJ.cur hm
    have hmod : ∃ q s, s < e ∧ m = e * q + s ∧ pos l = q % n ∧ gv l = 4 - c * (s : Nat) := by
      rw [hh] at hd
      unfold gv at hd ⊢
      rw [w1] at hd ⊢
      rcases hJ.s with ⟨g, d0, q, mq, hq⟩ | ⟨g, q, s, s1, s2, mq, hq, ds⟩
      · rw [g, d0, if_neg (by decide)]
        exact ⟨q, 0, by rcases hce with ⟨rfl, rfl⟩ | ⟨rfl, rfl⟩ <;> omega, by omega, hq, by simp⟩
      · rw [g, if_pos rfl, ds] at hd
        rw [g, if_pos rfl, ds]
        exact ⟨q, s, by rcases hce with ⟨rfl, rfl⟩ | ⟨rfl, rfl⟩ <;> omega, mq, hq, rfl⟩
    obtain ⟨q, s, hs, mq, hq, hg⟩ := hmod
    have hdiv : m / e = q := by rw [mq, Nat.mul_add_div (by omega), Nat.div_eq_of_lt hs, Nat.add_zero]
    refine ⟨fun h58 => ?_, by rw [hdiv, ← hq]; exact hr.pos.2.symm, hh⟩
    have hdr : ¬ (S05.cur l).costs.drop 1 = [] := fun x => by
      have : ((S05.cur l).costs.drop 1).length = 0 := by rw [x]; rfl
      rw [List.length_drop] at this; omega
    have hrs := srv_right hr hne hd
    have hat : ∀ i, i < n → (srv l).list.getD i default = if i = pos l then ⟨(S05.cur l).weight, gv l - hd0 l, (S05.cur l).costs.drop 1⟩ else l.list.getD i default := fun i hi => by
      rw [srv_at (by rw [hJ.nn]; exact hi), if_neg hdr]
    refine ⟨hrs, by rw [srv_len]; exact hJ.nn, fun i hi => ?_, fun i hi => ?_, fun i hi hi2 => ?_, .inr ⟨rfl, q, s + 1, by omega, by omega, by omega, hq, ?_⟩⟩
    · rw [hat i hi]
      by_cases e2 : i = pos l
      · rw [if_pos e2]; exact w1
      · rw [if_neg e2]; exact hJ.ww i hi
    · rw [hat i hi]
      by_cases e2 : i = pos l
      · rw [if_pos e2]
        refine ⟨by show 60 ≤ ((S05.cur l).costs.drop 1).length + (m + 1); rw [List.length_drop]; omega, fun x hx => (hJ.cs _ hp).2 x (List.mem_of_mem_drop hx)⟩
      · rw [if_neg e2]; have := hJ.cs i hi; exact ⟨by omega, this.2⟩
    · have hi2 : i ≠ pos l := hi2
      rw [hat i hi, if_neg hi2]; exact hJ.d i hi hi2
    · have : S05.cur (srv l) = ⟨(S05.cur l).weight, gv l - hd0 l, (S05.cur l).costs.drop 1⟩ := by
        show (srv l).list.getD (pos l) default = _
        rw [hat _ hp, if_pos rfl]
      rw [this, hg, hh]
      rcases hce with ⟨rfl, rfl⟩ | ⟨rfl, rfl⟩
      · show (4 : Int) - 4 * (s : Nat) - 4 = _; push_cast; omega
      · show (4 : Int) - 2 * (s : Nat) - 2 = _; push_cast; omega) h.r hw h
  have e1 : nextL l = (nx l).1 := if_pos hok
  have e2 : nextC l = (nx l).2 := if_pos hok
  have e3 : nextA l = (nx l).1.at_ := if_pos hok
  rw [e1, e2, e3]
  exact ⟨hok, this.2.1, this.2.2.1, this.2.2.2⟩
end Lk.S05
namespace Lk.S05
open Go Lk Lk.C
section
variable {P : Program} {F : Nat → Nat}
set_option maxHeartbeats 8000000 in
set_option maxRecDepth 100000 in
theorem lanesEqual_law (K : K05 P F) (hk : law05_LanesEqual_k P F) (many steps : UInt8) (half : Bool) :
    FnOk P (F 91) [.one (.int .u8 many.toNat), .one (.int .u8 steps.toNat), .one (.bool half)] [.one (.im (.bool true))] := by
  refine fnOk K.k.m hk ?_
  have hmt := UInt8.toNat_lt many
  obtain ⟨n, hn1, hn⟩ : ∃ n : Nat, (2 : Int) + (many.toNat : Int) % 5 = (n : Int) ∧ 2 ≤ n ∧ n ≤ 6 := ⟨2 + many.toNat % 5, by push_cast; rfl, by omega, by omega⟩
  obtain ⟨st, hst1, hst2⟩ : ∃ st : Nat, (steps.toNat : Int) % 61 = (st : Int) ∧ st ≤ 60 := ⟨steps.toNat % 61, by push_cast; rfl, by omega⟩
  cases half with
  | false =>
    repeat' first
      | (with_reducible first | refine NeedI.mk (fun h => h) ?_ | refine NeedI.mk (fun h => h.2) ?_ | refine NeedI.mk (fun h => h.1) ?_ | exact Done.mk | refine Both.mk (fun _ => ?_) (fun _ => ?_) | refine Both2.mk (fun _ => ?_) ?_ | refine Need.mk (by first | omega | with_reducible exact CEq.refl _ | (dsimp only; omega) | (dsimp only [rng]; omega) | (simp only [decide_eq_true_eq, decide_eq_false_iff_not, Bool.or_eq_true, Bool.and_eq_true, Bool.or_eq_false_iff, Int.toNat_natCast, addN_eq, cond_false, cond_true, rng] at *; omega) | exact ⟨rfl, rfl⟩) ?_)
      | ((with_reducible refine Need.mk ?_ ?_); exact CEq.refl _)
      | ((with_reducible fail_if_success first | refine LoopVC.mk ?_ | refine Need.mk ?_ ?_ | refine CallVC.mk ?_ | refine LoopEnd.mk ?_ | refine Out.mk ?_ | show False | refine NeedI.mk ?_ ?_); conv => whnf)
    · rename_i h; exact absurd h (by decide)
    rename_i h0
    clear h0
    rw [hn1, Int.toNat_natCast]
    have hce : ((4 : Int) = 4 ∧ 1 = 1) ∨ ((4 : Int) = 2 ∧ 1 = 2) := by decide
    have hc8 : 1 ≤ (4 : Int) ∧ (4 : Int) ≤ 8 := by decide
    refine LoopVC.inv (fun i : Nat => i ≤ n) (fun i => stL [(1, .c (.int .u8 steps.toNat)), (7, .c (.int .i64 n)), (8, .c (.int .i64 4)), (9, .c (.int .i64 1)), (10, .os 26 0 1 0 n), (28, .c (.int .i64 n)), (29, .c (.int .i64 i))]
      [(26, ⟨1, n, .dat fun r j => intE (if r < i then 1 else 0) j, false, true⟩)]) (fun i => n - i) 0 (Nat.zero_le _) ?_ ?_
    · (refine Le.of ?_ ?_ <;> repeat' first | exact trivial | exact CEq.refl _ | exact rfl | exact cI (by push_cast; first | rfl | omega) | exact SubE.dat fun _ _ _ _ => CEq.refl _ | refine SubE.var2 ?_ ?_ | refine SubE.var1 ?_ | refine SubE.var3 ?_ ?_ ?_ | refine SubE.var4 ?_ ?_ ?_ ?_ | refine SubE.var5 ?_ ?_ ?_ ?_ ?_ | refine Exists.intro _ (And.intro rfl ?_) | refine And.intro ?_ ?_)
      all_goals exact ⟨rfl, rfl, id, id, fun i hi j hj => by
        obtain rfl : j = 0 := by have hj : j < 1 := hj; omega
        refine eI ?_
        show (0 : Int) = if i < 0 then 1 else 0
        rw [if_neg (Nat.not_lt_zero i)]⟩
    rintro Q hQ i hi
    repeat' first
      | (with_reducible first | refine NeedI.mk (fun h => h) ?_ | refine NeedI.mk (fun h => h.2) ?_ | refine NeedI.mk (fun h => h.1) ?_ | exact Done.mk | refine Both.mk (fun _ => ?_) (fun _ => ?_) | refine Both2.mk (fun _ => ?_) ?_ | refine Need.mk (by first | omega | with_reducible exact CEq.refl _ | (dsimp only; omega) | (dsimp only [rng]; omega) | (simp only [decide_eq_true_eq, decide_eq_false_iff_not, Bool.or_eq_true, Bool.and_eq_true, Bool.or_eq_false_iff, Int.toNat_natCast, addN_eq, cond_false, cond_true, rng] at *; omega) | exact ⟨rfl, rfl⟩) ?_)
      | ((with_reducible refine Need.mk ?_ ?_); exact CEq.refl _)
      | ((with_reducible fail_if_success first | refine LoopVC.mk ?_ | refine Need.mk ?_ ?_ | refine CallVC.mk ?_ | refine LoopEnd.mk ?_ | refine Out.mk ?_ | show False | refine NeedI.mk ?_ ?_); conv => whnf)
    · rename_i h
      have h : i < n := by have := of_decide_eq_true h; omega
      refine LoopEnd.mk ⟨i + 1, h, by omega, ?_⟩
      (refine Le.of ?_ ?_ <;> repeat' first | exact trivial | exact CEq.refl _ | exact rfl | exact cI (by push_cast; first | rfl | omega) | exact SubE.dat fun _ _ _ _ => CEq.refl _ | refine SubE.var2 ?_ ?_ | refine SubE.var1 ?_ | refine SubE.var3 ?_ ?_ ?_ | refine SubE.var4 ?_ ?_ ?_ ?_ | refine SubE.var5 ?_ ?_ ?_ ?_ ?_ | refine Exists.intro _ (And.intro rfl ?_) | refine And.intro ?_ ?_)
      refine SubE.dat fun r hr j hj => ?_
      obtain rfl : j = 0 := by have hj : j < 1 := hj; omega
      rw [updC_at, addN_eq, Nat.zero_add, Int.toNat_natCast]
      by_cases e : r = i
      · rw [if_pos ⟨e, rfl⟩, if_pos (by omega)]; exact CEq.refl _
      · rw [if_neg (fun x => e x.1)]
        refine eI ?_
        by_cases e2 : r < i
        · rw [if_pos e2, if_pos (by omega)]
        · rw [if_neg e2, if_neg (by omega)]
    rename_i h
    have h : i = n := by have := of_decide_eq_false h; omega
    refine Out.mk (hQ _ _ ?_)
    clear hQ Q
    repeat' first
      | (with_reducible first | refine NeedI.mk (fun h => h) ?_ | refine NeedI.mk (fun h => h.2) ?_ | refine NeedI.mk (fun h => h.1) ?_ | exact Done.mk | refine Both.mk (fun _ => ?_) (fun _ => ?_) | refine Both2.mk (fun _ => ?_) ?_ | refine Need.mk (by first | omega | with_reducible exact CEq.refl _ | (dsimp only; omega) | (dsimp only [rng]; omega) | (simp only [decide_eq_true_eq, decide_eq_false_iff_not, Bool.or_eq_true, Bool.and_eq_true, Bool.or_eq_false_iff, Int.toNat_natCast, addN_eq, cond_false, cond_true, rng] at *; omega) | exact ⟨rfl, rfl⟩) ?_)
      | ((with_reducible refine Need.mk ?_ ?_); exact CEq.refl _)
      | ((with_reducible fail_if_success first | refine LoopVC.mk ?_ | refine Need.mk ?_ ?_ | refine CallVC.mk ?_ | refine LoopEnd.mk ?_ | refine Out.mk ?_ | show False | refine NeedI.mk ?_ ?_); conv => whnf)
    have hst := EP.start (c := 4) hn
    refine CallVC.mk' (fun _ => new_ok K.k (List.replicate n 1) (by rw [List.length_replicate]; omega)) (fun _ => .cons (.one ?_) .nil) ?_
    · exact IsL.ceq (l := List.replicate n (1 : Int)) (fun r hr j hj => by
        have hr : r < n := by simpa using hr
        obtain rfl : j = 0 := by omega
        refine eI ?_
        show (if addN 0 r < i then (1 : Int) else 0) = (List.replicate n 1).getD r default
        rw [addN_eq, Nat.zero_add, if_pos (by omega), getD_eq (by simpa using hr), List.getElem_replicate]) (by simp)
    rw [hst.2]
    have hst := hst.1
    generalize newL (List.replicate n 1) = l0 at *
    repeat' first
      | (with_reducible first | refine NeedI.mk (fun h => h) ?_ | refine NeedI.mk (fun h => h.2) ?_ | refine NeedI.mk (fun h => h.1) ?_ | exact Done.mk | refine Both.mk (fun _ => ?_) (fun _ => ?_) | refine Both2.mk (fun _ => ?_) ?_ | refine Need.mk (by first | omega | with_reducible exact CEq.refl _ | (dsimp only; omega) | (dsimp only [rng]; omega) | (simp only [decide_eq_true_eq, decide_eq_false_iff_not, Bool.or_eq_true, Bool.and_eq_true, Bool.or_eq_false_iff, Int.toNat_natCast, addN_eq, cond_false, cond_true, rng] at *; omega) | exact ⟨rfl, rfl⟩) ?_)
      | ((with_reducible refine Need.mk ?_ ?_); exact CEq.refl _)
      | ((with_reducible fail_if_success first | refine LoopVC.mk ?_ | refine Need.mk ?_ ?_ | refine CallVC.mk ?_ | refine LoopEnd.mk ?_ | refine Out.mk ?_ | show False | refine NeedI.mk ?_ ?_); conv => whnf)
    clear h hi
    refine LoopVC.inv (X := Ls × Nat) (fun x => EP n 4 x.2 0 x.1 ∧ x.2 ≤ n) (fun x => stL [(1, .c (.int .u8 steps.toNat)), (7, .c (.int .i64 n)), (8, .c (.int .i64 4)), (9, .c (.int .i64 1)), (12, .va 12 0 0), (13, .c (.int .i64 0)), (41, .c (.int .i64 n)), (42, .c (.int .i64 x.2))]
      [(12, vE [.c (slL 3 lnE x.1.list), .c (.int .i64 x.1.at_), .c (.bool x.1.given)])]) (fun x => n - x.2) ⟨l0, 0⟩ ⟨hst, Nat.zero_le _⟩ ?_ ?_
    · (refine Le.of ?_ ?_ <;> repeat' first | exact trivial | exact CEq.refl _ | exact rfl | exact cI (by push_cast; first | rfl | omega) | exact SubE.dat fun _ _ _ _ => CEq.refl _ | refine SubE.var2 ?_ ?_ | refine SubE.var1 ?_ | refine SubE.var3 ?_ ?_ ?_ | refine SubE.var4 ?_ ?_ ?_ ?_ | refine SubE.var5 ?_ ?_ ?_ ?_ ?_ | refine Exists.intro _ (And.intro rfl ?_) | refine And.intro ?_ ?_)
    clear hst
    rintro Q hQ ⟨la, i⟩ ⟨I, hi⟩
    dsimp only at I hi
    dsimp only
    repeat' first
      | (with_reducible first | refine NeedI.mk (fun h => h) ?_ | refine NeedI.mk (fun h => h.2) ?_ | refine NeedI.mk (fun h => h.1) ?_ | exact Done.mk | refine Both.mk (fun _ => ?_) (fun _ => ?_) | refine Both2.mk (fun _ => ?_) ?_ | refine Need.mk (by first | omega | with_reducible exact CEq.refl _ | (dsimp only; omega) | (dsimp only [rng]; omega) | (simp only [decide_eq_true_eq, decide_eq_false_iff_not, Bool.or_eq_true, Bool.and_eq_true, Bool.or_eq_false_iff, Int.toNat_natCast, addN_eq, cond_false, cond_true, rng] at *; omega) | exact ⟨rfl, rfl⟩) ?_)
      | ((with_reducible refine Need.mk ?_ ?_); exact CEq.refl _)
      | ((with_reducible fail_if_success first | refine LoopVC.mk ?_ | refine Need.mk ?_ ?_ | refine CallVC.mk ?_ | refine LoopEnd.mk ?_ | refine Out.mk ?_ | show False | refine NeedI.mk ?_ ?_); conv => whnf)
    · rename_i h
      have hil : i < n := by have := of_decide_eq_true h; omega
      refine LoopVC.inv (X := Ls × Nat) (fun x => EP n 4 i x.2 x.1 ∧ x.2 ≤ 60) (fun x => stL [(1, .c (.int .u8 steps.toNat)), (7, .c (.int .i64 n)), (8, .c (.int .i64 4)), (9, .c (.int .i64 1)), (12, .va 12 0 0), (13, .c (.int .i64 0)), (14, .c (.int .i64 i)), (41, .c (.int .i64 n)), (42, .c (.int .i64 i)), (45, .c (.int .i64 x.2))]
        [(12, vE [.c (slL 3 lnE x.1.list), .c (.int .i64 x.1.at_), .c (.bool x.1.given)])]) (fun x => 60 - x.2) ⟨la, 0⟩ ⟨I, Nat.zero_le _⟩ ?_ ?_
      · (refine Le.of ?_ ?_ <;> repeat' first | exact trivial | exact CEq.refl _ | exact rfl | exact cI (by push_cast; first | rfl | omega) | exact SubE.dat fun _ _ _ _ => CEq.refl _ | refine SubE.var2 ?_ ?_ | refine SubE.var1 ?_ | refine SubE.var3 ?_ ?_ ?_ | refine SubE.var4 ?_ ?_ ?_ ?_ | refine SubE.var5 ?_ ?_ ?_ ?_ ?_ | refine Exists.intro _ (And.intro rfl ?_) | refine And.intro ?_ ?_)
      clear I
      rintro Q1 hQ1 ⟨l, j⟩ ⟨I, hj⟩
      dsimp only at I hj
      dsimp only
      repeat' first
        | (with_reducible first | refine NeedI.mk (fun h => h) ?_ | refine NeedI.mk (fun h => h.2) ?_ | refine NeedI.mk (fun h => h.1) ?_ | exact Done.mk | refine Both.mk (fun _ => ?_) (fun _ => ?_) | refine Both2.mk (fun _ => ?_) ?_ | refine Need.mk (by first | omega | with_reducible exact CEq.refl _ | (dsimp only; omega) | (dsimp only [rng]; omega) | (simp only [decide_eq_true_eq, decide_eq_false_iff_not, Bool.or_eq_true, Bool.and_eq_true, Bool.or_eq_false_iff, Int.toNat_natCast, addN_eq, cond_false, cond_true, rng] at *; omega) | exact ⟨rfl, rfl⟩) ?_)
        | ((with_reducible refine Need.mk ?_ ?_); exact CEq.refl _)
        | ((with_reducible fail_if_success first | refine LoopVC.mk ?_ | refine Need.mk ?_ ?_ | refine CallVC.mk ?_ | refine LoopEnd.mk ?_ | refine Out.mk ?_ | show False | refine NeedI.mk ?_ ?_); conv => whnf)
      · rename_i hjl
        have hjl : j < 60 := by have := of_decide_eq_true hjl; omega
        have hp := I.push hn hc8 hjl hil
        refine CallVC.mk' (fun _ => push_ok K.k l i 4 (I.right hn hc8 hj).tiny) (fun _ => .cons ((.many fun j hj => by (rcases (show j = 0 ∨ j = 1 ∨ j = 2 by omega) with rfl | rfl | rfl <;> exact CEq.refl _))) (.cons (.one (CEq.refl _)) (.cons (.one (CEq.refl _)) .nil))) ?_
        rw [hp.1]
        generalize pushL l i 4 = l2 at *
        repeat' first
          | (with_reducible first | refine NeedI.mk (fun h => h) ?_ | refine NeedI.mk (fun h => h.2) ?_ | refine NeedI.mk (fun h => h.1) ?_ | exact Done.mk | refine Both.mk (fun _ => ?_) (fun _ => ?_) | refine Both2.mk (fun _ => ?_) ?_ | refine Need.mk (by first | omega | with_reducible exact CEq.refl _ | (dsimp only; omega) | (dsimp only [rng]; omega) | (simp only [decide_eq_true_eq, decide_eq_false_iff_not, Bool.or_eq_true, Bool.and_eq_true, Bool.or_eq_false_iff, Int.toNat_natCast, addN_eq, cond_false, cond_true, rng] at *; omega) | exact ⟨rfl, rfl⟩) ?_)
          | ((with_reducible refine Need.mk ?_ ?_); exact CEq.refl _)
          | ((with_reducible fail_if_success first | refine LoopVC.mk ?_ | refine Need.mk ?_ ?_ | refine CallVC.mk ?_ | refine LoopEnd.mk ?_ | refine Out.mk ?_ | show False | refine NeedI.mk ?_ ?_); conv => whnf)
        refine LoopEnd.mk ⟨(l2, j + 1), ⟨hp.2, hjl⟩, by show 60 - (j + 1) < 60 - j; omega, ?_⟩
        (refine Le.of ?_ ?_ <;> repeat' first | exact trivial | exact CEq.refl _ | exact rfl | exact cI (by push_cast; first | rfl | omega) | exact SubE.dat fun _ _ _ _ => CEq.refl _ | refine SubE.var2 ?_ ?_ | refine SubE.var1 ?_ | refine SubE.var3 ?_ ?_ ?_ | refine SubE.var4 ?_ ?_ ?_ ?_ | refine SubE.var5 ?_ ?_ ?_ ?_ ?_ | refine Exists.intro _ (And.intro rfl ?_) | refine And.intro ?_ ?_)
      · rename_i hjl
        have hjl : j = 60 := by have := of_decide_eq_false hjl; omega
        rw [hjl] at I
        refine Out.mk (hQ1 _ _ ?_)
        repeat' first
          | (with_reducible first | refine NeedI.mk (fun h => h) ?_ | refine NeedI.mk (fun h => h.2) ?_ | refine NeedI.mk (fun h => h.1) ?_ | exact Done.mk | refine Both.mk (fun _ => ?_) (fun _ => ?_) | refine Both2.mk (fun _ => ?_) ?_ | refine Need.mk (by first | omega | with_reducible exact CEq.refl _ | (dsimp only; omega) | (dsimp only [rng]; omega) | (simp only [decide_eq_true_eq, decide_eq_false_iff_not, Bool.or_eq_true, Bool.and_eq_true, Bool.or_eq_false_iff, Int.toNat_natCast, addN_eq, cond_false, cond_true, rng] at *; omega) | exact ⟨rfl, rfl⟩) ?_)
          | ((with_reducible refine Need.mk ?_ ?_); exact CEq.refl _)
          | ((with_reducible fail_if_success first | refine LoopVC.mk ?_ | refine Need.mk ?_ ?_ | refine CallVC.mk ?_ | refine LoopEnd.mk ?_ | refine Out.mk ?_ | show False | refine NeedI.mk ?_ ?_); conv => whnf)
        refine LoopEnd.mk ⟨(l, i + 1), ⟨I.more, hil⟩, by show n - (i + 1) < n - i; omega, ?_⟩
        (refine Le.of ?_ ?_ <;> repeat' first | exact trivial | exact CEq.refl _ | exact rfl | exact cI (by push_cast; first | rfl | omega) | exact SubE.dat fun _ _ _ _ => CEq.refl _ | refine SubE.var2 ?_ ?_ | refine SubE.var1 ?_ | refine SubE.var3 ?_ ?_ ?_ | refine SubE.var4 ?_ ?_ ?_ ?_ | refine SubE.var5 ?_ ?_ ?_ ?_ ?_ | refine Exists.intro _ (And.intro rfl ?_) | refine And.intro ?_ ?_)
    rename_i h
    have hin : i = n := by have := of_decide_eq_false h; omega
    rw [hin] at I
    refine Out.mk (hQ _ _ ?_)
    clear hQ Q h hi
    repeat' first
      | (with_reducible first | refine NeedI.mk (fun h => h) ?_ | refine NeedI.mk (fun h => h.2) ?_ | refine NeedI.mk (fun h => h.1) ?_ | exact Done.mk | refine Both.mk (fun _ => ?_) (fun _ => ?_) | refine Both2.mk (fun _ => ?_) ?_ | refine Need.mk (by first | omega | with_reducible exact CEq.refl _ | (dsimp only; omega) | (dsimp only [rng]; omega) | (simp only [decide_eq_true_eq, decide_eq_false_iff_not, Bool.or_eq_true, Bool.and_eq_true, Bool.or_eq_false_iff, Int.toNat_natCast, addN_eq, cond_false, cond_true, rng] at *; omega) | exact ⟨rfl, rfl⟩) ?_)
      | ((with_reducible refine Need.mk ?_ ?_); exact CEq.refl _)
      | ((with_reducible fail_if_success first | refine LoopVC.mk ?_ | refine Need.mk ?_ ?_ | refine CallVC.mk ?_ | refine LoopEnd.mk ?_ | refine Out.mk ?_ | show False | refine NeedI.mk ?_ ?_); conv => whnf)
    have I := I.right hn hc8 (by omega) |> fun _ => JE.start (e := 1) I hn hc8
    refine LoopVC.inv (X := Ls × Nat) (fun x => (x.2 < st → JE n 4 1 x.2 x.1) ∧ x.2 ≤ st) (fun x => stL [(7, .c (.int .i64 n)), (8, .c (.int .i64 4)), (9, .c (.int .i64 1)), (12, .va 12 0 0), (13, .c (.int .i64 0)), (58, .c (.int .i64 st)), (59, .c (.int .i64 x.2))]
      [(12, vE [.c (slL 3 lnE x.1.list), .c (.int .i64 x.1.at_), .c (.bool x.1.given)])]) (fun x => st - x.2) ⟨la, 0⟩ ⟨fun _ => I, Nat.zero_le _⟩ ?_ ?_
    · (refine Le.of ?_ ?_ <;> repeat' first | exact trivial | exact CEq.refl _ | exact rfl | exact cI (by push_cast; first | rfl | omega) | exact SubE.dat fun _ _ _ _ => CEq.refl _ | refine SubE.var2 ?_ ?_ | refine SubE.var1 ?_ | refine SubE.var3 ?_ ?_ ?_ | refine SubE.var4 ?_ ?_ ?_ ?_ | refine SubE.var5 ?_ ?_ ?_ ?_ ?_ | refine Exists.intro _ (And.intro rfl ?_) | refine And.intro ?_ ?_)
    clear I
    rintro Q hQ ⟨l, m⟩ ⟨I, hm⟩
    dsimp only at I hm
    dsimp only
    repeat' first
      | (with_reducible first | refine NeedI.mk (fun h => h) ?_ | refine NeedI.mk (fun h => h.2) ?_ | refine NeedI.mk (fun h => h.1) ?_ | exact Done.mk | refine Both.mk (fun _ => ?_) (fun _ => ?_) | refine Both2.mk (fun _ => ?_) ?_ | refine Need.mk (by first | omega | with_reducible exact CEq.refl _ | (dsimp only; omega) | (dsimp only [rng]; omega) | (simp only [decide_eq_true_eq, decide_eq_false_iff_not, Bool.or_eq_true, Bool.and_eq_true, Bool.or_eq_false_iff, Int.toNat_natCast, addN_eq, cond_false, cond_true, rng] at *; omega) | exact ⟨rfl, rfl⟩) ?_)
      | ((with_reducible refine Need.mk ?_ ?_); exact CEq.refl _)
      | ((with_reducible fail_if_success first | refine LoopVC.mk ?_ | refine Need.mk ?_ ?_ | refine CallVC.mk ?_ | refine LoopEnd.mk ?_ | refine Out.mk ?_ | show False | refine NeedI.mk ?_ ?_); conv => whnf)
    · rename_i h
      have h : m < st := by have := of_decide_eq_true h; omega
      have I := I h
      obtain ⟨n1, n2, n3, n4⟩ := I.next hn hce (by omega)
      refine CallVC.mk' (fun _ => next_ok K.k l I.r.tiny) (fun _ => .cons ((.many fun j hj => by (rcases (show j = 0 ∨ j = 1 ∨ j = 2 by omega) with rfl | rfl | rfl <;> exact CEq.refl _))) .nil) ?_
      rw [decide_eq_true n1, n3, n4]
      generalize nextL l = l2 at *
      repeat' first
        | (with_reducible first | refine NeedI.mk (fun h => h) ?_ | refine NeedI.mk (fun h => h.2) ?_ | refine NeedI.mk (fun h => h.1) ?_ | exact Done.mk | refine Both.mk (fun _ => ?_) (fun _ => ?_) | refine Both2.mk (fun _ => ?_) ?_ | refine Need.mk (by first | omega | with_reducible exact CEq.refl _ | (dsimp only; omega) | (dsimp only [rng]; omega) | (simp only [decide_eq_true_eq, decide_eq_false_iff_not, Bool.or_eq_true, Bool.and_eq_true, Bool.or_eq_false_iff, Int.toNat_natCast, addN_eq, cond_false, cond_true, rng] at *; omega) | exact ⟨rfl, rfl⟩) ?_)
        | ((with_reducible refine Need.mk ?_ ?_); exact CEq.refl _)
        | ((with_reducible fail_if_success first | refine LoopVC.mk ?_ | refine Need.mk ?_ ?_ | refine CallVC.mk ?_ | refine LoopEnd.mk ?_ | refine Out.mk ?_ | show False | refine NeedI.mk ?_ ?_); conv => whnf)
      · rename_i h5
        exfalso
        rw [decide_eq_true (show ((m / 1 % n : Nat) : Int) = (m : Int) / 1 % (n : Int) by push_cast; rfl)] at h5
        simp at h5
      · refine LoopEnd.mk ⟨(l2, m + 1), ⟨fun x => n2 (by have x : m + 1 < st := x; omega), h⟩, by show st - (m + 1) < st - m; omega, ?_⟩
        clear n2
        (refine Le.of ?_ ?_ <;> repeat' first | exact trivial | exact CEq.refl _ | exact rfl | exact cI (by push_cast; first | rfl | omega) | exact SubE.dat fun _ _ _ _ => CEq.refl _ | refine SubE.var2 ?_ ?_ | refine SubE.var1 ?_ | refine SubE.var3 ?_ ?_ ?_ | refine SubE.var4 ?_ ?_ ?_ ?_ | refine SubE.var5 ?_ ?_ ?_ ?_ ?_ | refine Exists.intro _ (And.intro rfl ?_) | refine And.intro ?_ ?_)
    refine Out.mk (hQ _ _ ?_)
    repeat' first
      | (with_reducible first | refine NeedI.mk (fun h => h) ?_ | refine NeedI.mk (fun h => h.2) ?_ | refine NeedI.mk (fun h => h.1) ?_ | exact Done.mk | refine Both.mk (fun _ => ?_) (fun _ => ?_) | refine Both2.mk (fun _ => ?_) ?_ | refine Need.mk (by first | omega | with_reducible exact CEq.refl _ | (dsimp only; omega) | (dsimp only [rng]; omega) | (simp only [decide_eq_true_eq, decide_eq_false_iff_not, Bool.or_eq_true, Bool.and_eq_true, Bool.or_eq_false_iff, Int.toNat_natCast, addN_eq, cond_false, cond_true, rng] at *; omega) | exact ⟨rfl, rfl⟩) ?_)
      | ((with_reducible refine Need.mk ?_ ?_); exact CEq.refl _)
      | ((with_reducible fail_if_success first | refine LoopVC.mk ?_ | refine Need.mk ?_ ?_ | refine CallVC.mk ?_ | refine LoopEnd.mk ?_ | refine Out.mk ?_ | show False | refine NeedI.mk ?_ ?_); conv => whnf)
    refine CallVC.mk' (fun _ => awake_ok K) (fun _ => .nil) ?_
    repeat' first
      | (with_reducible first | refine NeedI.mk (fun h => h) ?_ | refine NeedI.mk (fun h => h.2) ?_ | refine NeedI.mk (fun h => h.1) ?_ | exact Done.mk | refine Both.mk (fun _ => ?_) (fun _ => ?_) | refine Both2.mk (fun _ => ?_) ?_ | refine Need.mk (by first | omega | with_reducible exact CEq.refl _ | (dsimp only; omega) | (dsimp only [rng]; omega) | (simp only [decide_eq_true_eq, decide_eq_false_iff_not, Bool.or_eq_true, Bool.and_eq_true, Bool.or_eq_false_iff, Int.toNat_natCast, addN_eq, cond_false, cond_true, rng] at *; omega) | exact ⟨rfl, rfl⟩) ?_)
      | ((with_reducible refine Need.mk ?_ ?_); exact CEq.refl _)
      | ((with_reducible fail_if_success first | refine LoopVC.mk ?_ | refine Need.mk ?_ ?_ | refine CallVC.mk ?_ | refine LoopEnd.mk ?_ | refine Out.mk ?_ | show False | refine NeedI.mk ?_ ?_); conv => whnf)
  | true =>
    repeat' first
      | (with_reducible first | refine NeedI.mk (fun h => h) ?_ | refine NeedI.mk (fun h => h.2) ?_ | refine NeedI.mk (fun h => h.1) ?_ | exact Done.mk | refine Both.mk (fun _ => ?_) (fun _ => ?_) | refine Both2.mk (fun _ => ?_) ?_ | refine Need.mk (by first | omega | with_reducible exact CEq.refl _ | (dsimp only; omega) | (dsimp only [rng]; omega) | (simp only [decide_eq_true_eq, decide_eq_false_iff_not, Bool.or_eq_true, Bool.and_eq_true, Bool.or_eq_false_iff, Int.toNat_natCast, addN_eq, cond_false, cond_true, rng] at *; omega) | exact ⟨rfl, rfl⟩) ?_)
      | ((with_reducible refine Need.mk ?_ ?_); exact CEq.refl _)
      | ((with_reducible fail_if_success first | refine LoopVC.mk ?_ | refine Need.mk ?_ ?_ | refine CallVC.mk ?_ | refine LoopEnd.mk ?_ | refine Out.mk ?_ | show False | refine NeedI.mk ?_ ?_); conv => whnf)
    rotate_left
    · rename_i h; exact absurd h (by decide)
    rename_i h0
    clear h0
    rw [hn1, Int.toNat_natCast]
    have hce : ((2 : Int) = 4 ∧ 2 = 1) ∨ ((2 : Int) = 2 ∧ 2 = 2) := by decide
    have hc8 : 1 ≤ (2 : Int) ∧ (2 : Int) ≤ 8 := by decide
    refine LoopVC.inv (fun i : Nat => i ≤ n) (fun i => stL [(1, .c (.int .u8 steps.toNat)), (7, .c (.int .i64 n)), (8, .c (.int .i64 2)), (9, .c (.int .i64 2)), (10, .os 26 0 1 0 n), (28, .c (.int .i64 n)), (29, .c (.int .i64 i))]
      [(26, ⟨1, n, .dat fun r j => intE (if r < i then 1 else 0) j, false, true⟩)]) (fun i => n - i) 0 (Nat.zero_le _) ?_ ?_
    · (refine Le.of ?_ ?_ <;> repeat' first | exact trivial | exact CEq.refl _ | exact rfl | exact cI (by push_cast; first | rfl | omega) | exact SubE.dat fun _ _ _ _ => CEq.refl _ | refine SubE.var2 ?_ ?_ | refine SubE.var1 ?_ | refine SubE.var3 ?_ ?_ ?_ | refine SubE.var4 ?_ ?_ ?_ ?_ | refine SubE.var5 ?_ ?_ ?_ ?_ ?_ | refine Exists.intro _ (And.intro rfl ?_) | refine And.intro ?_ ?_)
      all_goals exact ⟨rfl, rfl, id, id, fun i hi j hj => by
        obtain rfl : j = 0 := by have hj : j < 1 := hj; omega
        refine eI ?_
        show (0 : Int) = if i < 0 then 1 else 0
        rw [if_neg (Nat.not_lt_zero i)]⟩
    rintro Q hQ i hi
    repeat' first
      | (with_reducible first | refine NeedI.mk (fun h => h) ?_ | refine NeedI.mk (fun h => h.2) ?_ | refine NeedI.mk (fun h => h.1) ?_ | exact Done.mk | refine Both.mk (fun _ => ?_) (fun _ => ?_) | refine Both2.mk (fun _ => ?_) ?_ | refine Need.mk (by first | omega | with_reducible exact CEq.refl _ | (dsimp only; omega) | (dsimp only [rng]; omega) | (simp only [decide_eq_true_eq, decide_eq_false_iff_not, Bool.or_eq_true, Bool.and_eq_true, Bool.or_eq_false_iff, Int.toNat_natCast, addN_eq, cond_false, cond_true, rng] at *; omega) | exact ⟨rfl, rfl⟩) ?_)
      | ((with_reducible refine Need.mk ?_ ?_); exact CEq.refl _)
      | ((with_reducible fail_if_success first | refine LoopVC.mk ?_ | refine Need.mk ?_ ?_ | refine CallVC.mk ?_ | refine LoopEnd.mk ?_ | refine Out.mk ?_ | show False | refine NeedI.mk ?_ ?_); conv => whnf)
    · rename_i h
      have h : i < n := by have := of_decide_eq_true h; omega
      refine LoopEnd.mk ⟨i + 1, h, by omega, ?_⟩
      (refine Le.of ?_ ?_ <;> repeat' first | exact trivial | exact CEq.refl _ | exact rfl | exact cI (by push_cast; first | rfl | omega) | exact SubE.dat fun _ _ _ _ => CEq.refl _ | refine SubE.var2 ?_ ?_ | refine SubE.var1 ?_ | refine SubE.var3 ?_ ?_ ?_ | refine SubE.var4 ?_ ?_ ?_ ?_ | refine SubE.var5 ?_ ?_ ?_ ?_ ?_ | refine Exists.intro _ (And.intro rfl ?_) | refine And.intro ?_ ?_)
      refine SubE.dat fun r hr j hj => ?_
      obtain rfl : j = 0 := by have hj : j < 1 := hj; omega
      rw [updC_at, addN_eq, Nat.zero_add, Int.toNat_natCast]
      by_cases e : r = i
      · rw [if_pos ⟨e, rfl⟩, if_pos (by omega)]; exact CEq.refl _
      · rw [if_neg (fun x => e x.1)]
        refine eI ?_
        by_cases e2 : r < i
        · rw [if_pos e2, if_pos (by omega)]
        · rw [if_neg e2, if_neg (by omega)]
    rename_i h
    have h : i = n := by have := of_decide_eq_false h; omega
    refine Out.mk (hQ _ _ ?_)
    clear hQ Q
    repeat' first
      | (with_reducible first | refine NeedI.mk (fun h => h) ?_ | refine NeedI.mk (fun h => h.2) ?_ | refine NeedI.mk (fun h => h.1) ?_ | exact Done.mk | refine Both.mk (fun _ => ?_) (fun _ => ?_) | refine Both2.mk (fun _ => ?_) ?_ | refine Need.mk (by first | omega | with_reducible exact CEq.refl _ | (dsimp only; omega) | (dsimp only [rng]; omega) | (simp only [decide_eq_true_eq, decide_eq_false_iff_not, Bool.or_eq_true, Bool.and_eq_true, Bool.or_eq_false_iff, Int.toNat_natCast, addN_eq, cond_false, cond_true, rng] at *; omega) | exact ⟨rfl, rfl⟩) ?_)
      | ((with_reducible refine Need.mk ?_ ?_); exact CEq.refl _)
      | ((with_reducible fail_if_success first | refine LoopVC.mk ?_ | refine Need.mk ?_ ?_ | refine CallVC.mk ?_ | refine LoopEnd.mk ?_ | refine Out.mk ?_ | show False | refine NeedI.mk ?_ ?_); conv => whnf)
    have hst := EP.start (c := 2) hn
    refine CallVC.mk' (fun _ => new_ok K.k (List.replicate n 1) (by rw [List.length_replicate]; omega)) (fun _ => .cons (.one ?_) .nil) ?_
    · exact IsL.ceq (l := List.replicate n (1 : Int)) (fun r hr j hj => by
        have hr : r < n := by simpa using hr
        obtain rfl : j = 0 := by omega
        refine eI ?_
        show (if addN 0 r < i then (1 : Int) else 0) = (List.replicate n 1).getD r default
        rw [addN_eq, Nat.zero_add, if_pos (by omega), getD_eq (by simpa using hr), List.getElem_replicate]) (by simp)
    rw [hst.2]
    have hst := hst.1
    generalize newL (List.replicate n 1) = l0 at *
    repeat' first
      | (with_reducible first | refine NeedI.mk (fun h => h) ?_ | refine NeedI.mk (fun h => h.2) ?_ | refine NeedI.mk (fun h => h.1) ?_ | exact Done.mk | refine Both.mk (fun _ => ?_) (fun _ => ?_) | refine Both2.mk (fun _ => ?_) ?_ | refine Need.mk (by first | omega | with_reducible exact CEq.refl _ | (dsimp only; omega) | (dsimp only [rng]; omega) | (simp only [decide_eq_true_eq, decide_eq_false_iff_not, Bool.or_eq_true, Bool.and_eq_true, Bool.or_eq_false_iff, Int.toNat_natCast, addN_eq, cond_false, cond_true, rng] at *; omega) | exact ⟨rfl, rfl⟩) ?_)
      | ((with_reducible refine Need.mk ?_ ?_); exact CEq.refl _)
      | ((with_reducible fail_if_success first | refine LoopVC.mk ?_ | refine Need.mk ?_ ?_ | refine CallVC.mk ?_ | refine LoopEnd.mk ?_ | refine Out.mk ?_ | show False | refine NeedI.mk ?_ ?_); conv => whnf)
    clear h hi
    refine LoopVC.inv (X := Ls × Nat) (fun x => EP n 2 x.2 0 x.1 ∧ x.2 ≤ n) (fun x => stL [(1, .c (.int .u8 steps.toNat)), (7, .c (.int .i64 n)), (8, .c (.int .i64 2)), (9, .c (.int .i64 2)), (12, .va 12 0 0), (13, .c (.int .i64 0)), (41, .c (.int .i64 n)), (42, .c (.int .i64 x.2))]
      [(12, vE [.c (slL 3 lnE x.1.list), .c (.int .i64 x.1.at_), .c (.bool x.1.given)])]) (fun x => n - x.2) ⟨l0, 0⟩ ⟨hst, Nat.zero_le _⟩ ?_ ?_
    · (refine Le.of ?_ ?_ <;> repeat' first | exact trivial | exact CEq.refl _ | exact rfl | exact cI (by push_cast; first | rfl | omega) | exact SubE.dat fun _ _ _ _ => CEq.refl _ | refine SubE.var2 ?_ ?_ | refine SubE.var1 ?_ | refine SubE.var3 ?_ ?_ ?_ | refine SubE.var4 ?_ ?_ ?_ ?_ | refine SubE.var5 ?_ ?_ ?_ ?_ ?_ | refine Exists.intro _ (And.intro rfl ?_) | refine And.intro ?_ ?_)
    clear hst
    rintro Q hQ ⟨la, i⟩ ⟨I, hi⟩
    dsimp only at I hi
    dsimp only
    repeat' first
      | (with_reducible first | refine NeedI.mk (fun h => h) ?_ | refine NeedI.mk (fun h => h.2) ?_ | refine NeedI.mk (fun h => h.1) ?_ | exact Done.mk | refine Both.mk (fun _ => ?_) (fun _ => ?_) | refine Both2.mk (fun _ => ?_) ?_ | refine Need.mk (by first | omega | with_reducible exact CEq.refl _ | (dsimp only; omega) | (dsimp only [rng]; omega) | (simp only [decide_eq_true_eq, decide_eq_false_iff_not, Bool.or_eq_true, Bool.and_eq_true, Bool.or_eq_false_iff, Int.toNat_natCast, addN_eq, cond_false, cond_true, rng] at *; omega) | exact ⟨rfl, rfl⟩) ?_)
      | ((with_reducible refine Need.mk ?_ ?_); exact CEq.refl _)
      | ((with_reducible fail_if_success first | refine LoopVC.mk ?_ | refine Need.mk ?_ ?_ | refine CallVC.mk ?_ | refine LoopEnd.mk ?_ | refine Out.mk ?_ | show False | refine NeedI.mk ?_ ?_); conv => whnf)
    · rename_i h
      have hil : i < n := by have := of_decide_eq_true h; omega
      refine LoopVC.inv (X := Ls × Nat) (fun x => EP n 2 i x.2 x.1 ∧ x.2 ≤ 60) (fun x => stL [(1, .c (.int .u8 steps.toNat)), (7, .c (.int .i64 n)), (8, .c (.int .i64 2)), (9, .c (.int .i64 2)), (12, .va 12 0 0), (13, .c (.int .i64 0)), (14, .c (.int .i64 i)), (41, .c (.int .i64 n)), (42, .c (.int .i64 i)), (45, .c (.int .i64 x.2))]
        [(12, vE [.c (slL 3 lnE x.1.list), .c (.int .i64 x.1.at_), .c (.bool x.1.given)])]) (fun x => 60 - x.2) ⟨la, 0⟩ ⟨I, Nat.zero_le _⟩ ?_ ?_
      · (refine Le.of ?_ ?_ <;> repeat' first | exact trivial | exact CEq.refl _ | exact rfl | exact cI (by push_cast; first | rfl | omega) | exact SubE.dat fun _ _ _ _ => CEq.refl _ | refine SubE.var2 ?_ ?_ | refine SubE.var1 ?_ | refine SubE.var3 ?_ ?_ ?_ | refine SubE.var4 ?_ ?_ ?_ ?_ | refine SubE.var5 ?_ ?_ ?_ ?_ ?_ | refine Exists.intro _ (And.intro rfl ?_) | refine And.intro ?_ ?_)
      clear I
      rintro Q1 hQ1 ⟨l, j⟩ ⟨I, hj⟩
      dsimp only at I hj
      dsimp only
      repeat' first
        | (with_reducible first | refine NeedI.mk (fun h => h) ?_ | refine NeedI.mk (fun h => h.2) ?_ | refine NeedI.mk (fun h => h.1) ?_ | exact Done.mk | refine Both.mk (fun _ => ?_) (fun _ => ?_) | refine Both2.mk (fun _ => ?_) ?_ | refine Need.mk (by first | omega | with_reducible exact CEq.refl _ | (dsimp only; omega) | (dsimp only [rng]; omega) | (simp only [decide_eq_true_eq, decide_eq_false_iff_not, Bool.or_eq_true, Bool.and_eq_true, Bool.or_eq_false_iff, Int.toNat_natCast, addN_eq, cond_false, cond_true, rng] at *; omega) | exact ⟨rfl, rfl⟩) ?_)
        | ((with_reducible refine Need.mk ?_ ?_); exact CEq.refl _)
        | ((with_reducible fail_if_success first | refine LoopVC.mk ?_ | refine Need.mk ?_ ?_ | refine CallVC.mk ?_ | refine LoopEnd.mk ?_ | refine Out.mk ?_ | show False | refine NeedI.mk ?_ ?_); conv => whnf)
      · rename_i hjl
        have hjl : j < 60 := by have := of_decide_eq_true hjl; omega
        have hp := I.push hn hc8 hjl hil
        refine CallVC.mk' (fun _ => push_ok K.k l i 2 (I.right hn hc8 hj).tiny) (fun _ => .cons ((.many fun j hj => by (rcases (show j = 0 ∨ j = 1 ∨ j = 2 by omega) with rfl | rfl | rfl <;> exact CEq.refl _))) (.cons (.one (CEq.refl _)) (.cons (.one (CEq.refl _)) .nil))) ?_
        rw [hp.1]
        generalize pushL l i 2 = l2 at *
        repeat' first
          | (with_reducible first | refine NeedI.mk (fun h => h) ?_ | refine NeedI.mk (fun h => h.2) ?_ | refine NeedI.mk (fun h => h.1) ?_ | exact Done.mk | refine Both.mk (fun _ => ?_) (fun _ => ?_) | refine Both2.mk (fun _ => ?_) ?_ | refine Need.mk (by first | omega | with_reducible exact CEq.refl _ | (dsimp only; omega) | (dsimp only [rng]; omega) | (simp only [decide_eq_true_eq, decide_eq_false_iff_not, Bool.or_eq_true, Bool.and_eq_true, Bool.or_eq_false_iff, Int.toNat_natCast, addN_eq, cond_false, cond_true, rng] at *; omega) | exact ⟨rfl, rfl⟩) ?_)
          | ((with_reducible refine Need.mk ?_ ?_); exact CEq.refl _)
          | ((with_reducible fail_if_success first | refine LoopVC.mk ?_ | refine Need.mk ?_ ?_ | refine CallVC.mk ?_ | refine LoopEnd.mk ?_ | refine Out.mk ?_ | show False | refine NeedI.mk ?_ ?_); conv => whnf)
        refine LoopEnd.mk ⟨(l2, j + 1), ⟨hp.2, hjl⟩, by show 60 - (j + 1) < 60 - j; omega, ?_⟩
        (refine Le.of ?_ ?_ <;> repeat' first | exact trivial | exact CEq.refl _ | exact rfl | exact cI (by push_cast; first | rfl | omega) | exact SubE.dat fun _ _ _ _ => CEq.refl _ | refine SubE.var2 ?_ ?_ | refine SubE.var1 ?_ | refine SubE.var3 ?_ ?_ ?_ | refine SubE.var4 ?_ ?_ ?_ ?_ | refine SubE.var5 ?_ ?_ ?_ ?_ ?_ | refine Exists.intro _ (And.intro rfl ?_) | refine And.intro ?_ ?_)
      · rename_i hjl
        have hjl : j = 60 := by have := of_decide_eq_false hjl; omega
        rw [hjl] at I
        refine Out.mk (hQ1 _ _ ?_)
        repeat' first
          | (with_reducible first | refine NeedI.mk (fun h => h) ?_ | refine NeedI.mk (fun h => h.2) ?_ | refine NeedI.mk (fun h => h.1) ?_ | exact Done.mk | refine Both.mk (fun _ => ?_) (fun _ => ?_) | refine Both2.mk (fun _ => ?_) ?_ | refine Need.mk (by first | omega | with_reducible exact CEq.refl _ | (dsimp only; omega) | (dsimp only [rng]; omega) | (simp only [decide_eq_true_eq, decide_eq_false_iff_not, Bool.or_eq_true, Bool.and_eq_true, Bool.or_eq_false_iff, Int.toNat_natCast, addN_eq, cond_false, cond_true, rng] at *; omega) | exact ⟨rfl, rfl⟩) ?_)
          | ((with_reducible refine Need.mk ?_ ?_); exact CEq.refl _)
          | ((with_reducible fail_if_success first | refine LoopVC.mk ?_ | refine Need.mk ?_ ?_ | refine CallVC.mk ?_ | refine LoopEnd.mk ?_ | refine Out.mk ?_ | show False | refine NeedI.mk ?_ ?_); conv => whnf)
        refine LoopEnd.mk ⟨(l, i + 1), ⟨I.more, hil⟩, by show n - (i + 1) < n - i; omega, ?_⟩
        (refine Le.of ?_ ?_ <;> repeat' first | exact trivial | exact CEq.refl _ | exact rfl | exact cI (by push_cast; first | rfl | omega) | exact SubE.dat fun _ _ _ _ => CEq.refl _ | refine SubE.var2 ?_ ?_ | refine SubE.var1 ?_ | refine SubE.var3 ?_ ?_ ?_ | refine SubE.var4 ?_ ?_ ?_ ?_ | refine SubE.var5 ?_ ?_ ?_ ?_ ?_ | refine Exists.intro _ (And.intro rfl ?_) | refine And.intro ?_ ?_)
    rename_i h
    have hin : i = n := by have := of_decide_eq_false h; omega
    rw [hin] at I
    refine Out.mk (hQ _ _ ?_)
    clear hQ Q h hi
    repeat' first
      | (with_reducible first | refine NeedI.mk (fun h => h) ?_ | refine NeedI.mk (fun h => h.2) ?_ | refine NeedI.mk (fun h => h.1) ?_ | exact Done.mk | refine Both.mk (fun _ => ?_) (fun _ => ?_) | refine Both2.mk (fun _ => ?_) ?_ | refine Need.mk (by first | omega | with_reducible exact CEq.refl _ | (dsimp only; omega) | (dsimp only [rng]; omega) | (simp only [decide_eq_true_eq, decide_eq_false_iff_not, Bool.or_eq_true, Bool.and_eq_true, Bool.or_eq_false_iff, Int.toNat_natCast, addN_eq, cond_false, cond_true, rng] at *; omega) | exact ⟨rfl, rfl⟩) ?_)
      | ((with_reducible refine Need.mk ?_ ?_); exact CEq.refl _)
      | ((with_reducible fail_if_success first | refine LoopVC.mk ?_ | refine Need.mk ?_ ?_ | refine CallVC.mk ?_ | refine LoopEnd.mk ?_ | refine Out.mk ?_ | show False | refine NeedI.mk ?_ ?_); conv => whnf)
    have I := I.right hn hc8 (by omega) |> fun _ => JE.start (e := 2) I hn hc8
    refine LoopVC.inv (X := Ls × Nat) (fun x => (x.2 < st → JE n 2 2 x.2 x.1) ∧ x.2 ≤ st) (fun x => stL [(7, .c (.int .i64 n)), (8, .c (.int .i64 2)), (9, .c (.int .i64 2)), (12, .va 12 0 0), (13, .c (.int .i64 0)), (58, .c (.int .i64 st)), (59, .c (.int .i64 x.2))]
      [(12, vE [.c (slL 3 lnE x.1.list), .c (.int .i64 x.1.at_), .c (.bool x.1.given)])]) (fun x => st - x.2) ⟨la, 0⟩ ⟨fun _ => I, Nat.zero_le _⟩ ?_ ?_
    · (refine Le.of ?_ ?_ <;> repeat' first | exact trivial | exact CEq.refl _ | exact rfl | exact cI (by push_cast; first | rfl | omega) | exact SubE.dat fun _ _ _ _ => CEq.refl _ | refine SubE.var2 ?_ ?_ | refine SubE.var1 ?_ | refine SubE.var3 ?_ ?_ ?_ | refine SubE.var4 ?_ ?_ ?_ ?_ | refine SubE.var5 ?_ ?_ ?_ ?_ ?_ | refine Exists.intro _ (And.intro rfl ?_) | refine And.intro ?_ ?_)
    clear I
    rintro Q hQ ⟨l, m⟩ ⟨I, hm⟩
    dsimp only at I hm
    dsimp only
    repeat' first
      | (with_reducible first | refine NeedI.mk (fun h => h) ?_ | refine NeedI.mk (fun h => h.2) ?_ | refine NeedI.mk (fun h => h.1) ?_ | exact Done.mk | refine Both.mk (fun _ => ?_) (fun _ => ?_) | refine Both2.mk (fun _ => ?_) ?_ | refine Need.mk (by first | omega | with_reducible exact CEq.refl _ | (dsimp only; omega) | (dsimp only [rng]; omega) | (simp only [decide_eq_true_eq, decide_eq_false_iff_not, Bool.or_eq_true, Bool.and_eq_true, Bool.or_eq_false_iff, Int.toNat_natCast, addN_eq, cond_false, cond_true, rng] at *; omega) | exact ⟨rfl, rfl⟩) ?_)
      | ((with_reducible refine Need.mk ?_ ?_); exact CEq.refl _)
      | ((with_reducible fail_if_success first | refine LoopVC.mk ?_ | refine Need.mk ?_ ?_ | refine CallVC.mk ?_ | refine LoopEnd.mk ?_ | refine Out.mk ?_ | show False | refine NeedI.mk ?_ ?_); conv => whnf)
    · rename_i h
      have h : m < st := by have := of_decide_eq_true h; omega
      have I := I h
      obtain ⟨n1, n2, n3, n4⟩ := I.next hn hce (by omega)
      refine CallVC.mk' (fun _ => next_ok K.k l I.r.tiny) (fun _ => .cons ((.many fun j hj => by (rcases (show j = 0 ∨ j = 1 ∨ j = 2 by omega) with rfl | rfl | rfl <;> exact CEq.refl _))) .nil) ?_
      rw [decide_eq_true n1, n3, n4]
      generalize nextL l = l2 at *
      repeat' first
        | (with_reducible first | refine NeedI.mk (fun h => h) ?_ | refine NeedI.mk (fun h => h.2) ?_ | refine NeedI.mk (fun h => h.1) ?_ | exact Done.mk | refine Both.mk (fun _ => ?_) (fun _ => ?_) | refine Both2.mk (fun _ => ?_) ?_ | refine Need.mk (by first | omega | with_reducible exact CEq.refl _ | (dsimp only; omega) | (dsimp only [rng]; omega) | (simp only [decide_eq_true_eq, decide_eq_false_iff_not, Bool.or_eq_true, Bool.and_eq_true, Bool.or_eq_false_iff, Int.toNat_natCast, addN_eq, cond_false, cond_true, rng] at *; omega) | exact ⟨rfl, rfl⟩) ?_)
        | ((with_reducible refine Need.mk ?_ ?_); exact CEq.refl _)
        | ((with_reducible fail_if_success first | refine LoopVC.mk ?_ | refine Need.mk ?_ ?_ | refine CallVC.mk ?_ | refine LoopEnd.mk ?_ | refine Out.mk ?_ | show False | refine NeedI.mk ?_ ?_); conv => whnf)
      · rename_i h5
        exfalso
        rw [decide_eq_true (show ((m / 2 % n : Nat) : Int) = (m : Int) / 2 % (n : Int) by push_cast; rfl)] at h5
        simp at h5
      · refine LoopEnd.mk ⟨(l2, m + 1), ⟨fun x => n2 (by have x : m + 1 < st := x; omega), h⟩, by show st - (m + 1) < st - m; omega, ?_⟩
        clear n2
        (refine Le.of ?_ ?_ <;> repeat' first | exact trivial | exact CEq.refl _ | exact rfl | exact cI (by push_cast; first | rfl | omega) | exact SubE.dat fun _ _ _ _ => CEq.refl _ | refine SubE.var2 ?_ ?_ | refine SubE.var1 ?_ | refine SubE.var3 ?_ ?_ ?_ | refine SubE.var4 ?_ ?_ ?_ ?_ | refine SubE.var5 ?_ ?_ ?_ ?_ ?_ | refine Exists.intro _ (And.intro rfl ?_) | refine And.intro ?_ ?_)
    refine Out.mk (hQ _ _ ?_)
    repeat' first
      | (with_reducible first | refine NeedI.mk (fun h => h) ?_ | refine NeedI.mk (fun h => h.2) ?_ | refine NeedI.mk (fun h => h.1) ?_ | exact Done.mk | refine Both.mk (fun _ => ?_) (fun _ => ?_) | refine Both2.mk (fun _ => ?_) ?_ | refine Need.mk (by first | omega | with_reducible exact CEq.refl _ | (dsimp only; omega) | (dsimp only [rng]; omega) | (simp only [decide_eq_true_eq, decide_eq_false_iff_not, Bool.or_eq_true, Bool.and_eq_true, Bool.or_eq_false_iff, Int.toNat_natCast, addN_eq, cond_false, cond_true, rng] at *; omega) | exact ⟨rfl, rfl⟩) ?_)
      | ((with_reducible refine Need.mk ?_ ?_); exact CEq.refl _)
      | ((with_reducible fail_if_success first | refine LoopVC.mk ?_ | refine Need.mk ?_ ?_ | refine CallVC.mk ?_ | refine LoopEnd.mk ?_ | refine Out.mk ?_ | show False | refine NeedI.mk ?_ ?_); conv => whnf)
    refine CallVC.mk' (fun _ => awake_ok K) (fun _ => .nil) ?_
    repeat' first
      | (with_reducible first | refine NeedI.mk (fun h => h) ?_ | refine NeedI.mk (fun h => h.2) ?_ | refine NeedI.mk (fun h => h.1) ?_ | exact Done.mk | refine Both.mk (fun _ => ?_) (fun _ => ?_) | refine Both2.mk (fun _ => ?_) ?_ | refine Need.mk (by first | omega | with_reducible exact CEq.refl _ | (dsimp only; omega) | (dsimp only [rng]; omega) | (simp only [decide_eq_true_eq, decide_eq_false_iff_not, Bool.or_eq_true, Bool.and_eq_true, Bool.or_eq_false_iff, Int.toNat_natCast, addN_eq, cond_false, cond_true, rng] at *; omega) | exact ⟨rfl, rfl⟩) ?_)
      | ((with_reducible refine Need.mk ?_ ?_); exact CEq.refl _)
      | ((with_reducible fail_if_success first | refine LoopVC.mk ?_ | refine Need.mk ?_ ?_ | refine CallVC.mk ?_ | refine LoopEnd.mk ?_ | refine Out.mk ?_ | show False | refine NeedI.mk ?_ ?_); conv => whnf)
end
end Lk.S05
