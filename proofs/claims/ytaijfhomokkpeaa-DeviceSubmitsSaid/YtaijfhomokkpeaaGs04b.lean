/-
  Gs04b: what these chapters need.
-/
import Derived.Test.YtaijfhomokkpeaaGs04a
import Derived.Test.YtaijfhomokkpeaaGs03b
set_option linter.unusedSimpArgs false
set_option linter.unusedVariables false
namespace Lk.S04
open Go Lk Lk.C Lk.S03
theorem wo_step {l : List Rq} {a i : Nat} (hi : i < l.length) (h : i ≠ a) : without (l.take (i + 1)) a = without (l.take i) a ++ [l.getD i default] := by
  unfold without
  rw [take_snoc hi]
  have hl : (l.take i).length = i := by rw [List.length_take]; omega
  by_cases h1 : a < i
  · rw [List.take_append_of_le_length (by omega), List.drop_append_of_le_length (by omega), List.append_assoc]
  · have e1 : (l.take i ++ [l.getD i default]).take a = l.take i ++ [l.getD i default] := List.take_of_length_le (by rw [List.length_append, hl]; simp; omega)
    have e2 : (l.take i).take a = l.take i := List.take_of_length_le (by omega)
    have e3 : (l.take i ++ [l.getD i default]).drop (a + 1) = [] := List.drop_eq_nil_of_le (by rw [List.length_append, hl]; simp; omega)
    have e4 : (l.take i).drop (a + 1) = [] := List.drop_eq_nil_of_le (by omega)
    rw [e1, e2, e3, e4, List.append_nil, List.append_nil]
theorem wo_same {l : List Rq} {a : Nat} (hi : a < l.length) : without (l.take (a + 1)) a = without (l.take a) a := by
  unfold without
  rw [take_snoc hi]
  have hl : (l.take a).length = a := by rw [List.length_take]; omega
  rw [List.take_append_of_le_length (by omega), List.drop_eq_nil_of_le (by simp; omega), List.drop_eq_nil_of_le (by omega)]
theorem wo_len {l : List Rq} {a i : Nat} : (without (l.take i) a).length ≤ l.length := by
  unfold without; simp; omega
theorem fits_w {d : Dsk} {r : Rq} (h : right d) (h35 : 35 ≤ d.secs.length) (hl : r.data.length = 32) (hp1 : 1 ≤ r.page) (hp2 : r.page ≤ 16) : fits d (w0 r) ∧ fits d (w1 r) := by
  unfold fits w0 w1 hm
  simp only [List.length_take, List.length_drop]
  omega
theorem put_fit {d : Dsk} {w : Wr} (h : right d) (f : fits d w) (hc : d.cache.length < 200) : d.put w = ⟨d.secs, d.cache ++ [w]⟩ := by unfold Dsk.put; rw [if_pos ⟨h, f, hc⟩]
theorem putR_eq {d : Dsk} {r : Rq} (h : right d) (h35 : 35 ≤ d.secs.length) (hl : r.data.length = 32) (hp1 : 1 ≤ r.page) (hp2 : r.page ≤ 16) :
    putR d r = if d.cache.length < 200 then (if d.cache.length + 1 = 200 then (⟨d.secs, d.cache ++ [w0 r]⟩, 7) else (⟨d.secs, d.cache ++ [w0 r] ++ [w1 r]⟩, 0)) else (d, 7) := by
  obtain ⟨f0, f1⟩ := fits_w h h35 hl hp1 hp2
  by_cases hc : d.cache.length < 200
  · have e0 : d.putE (w0 r) = 0 := by unfold Dsk.putE; rw [if_pos ⟨h, f0⟩, if_pos hc]
    have p0 : d.put (w0 r) = ⟨d.secs, d.cache ++ [w0 r]⟩ := by unfold Dsk.put; rw [if_pos ⟨h, f0, hc⟩]
    have hr : right (d.put (w0 r)) := h.put
    have f1' : fits (d.put (w0 r)) (w1 r) := by rw [p0]; exact f1
    unfold putR
    rw [if_neg (by rw [e0]; simp), if_pos hc]
    have hcl : (d.put (w0 r)).cache.length = d.cache.length + 1 := by rw [p0]; simp
    by_cases hf : d.cache.length + 1 = 200
    · rw [if_pos hf, if_pos (by unfold Dsk.putE; rw [if_pos ⟨hr, f1'⟩, if_neg (by omega)]; decide), p0]
    · rw [if_neg hf, if_neg (by unfold Dsk.putE; rw [if_pos ⟨hr, f1'⟩, if_pos (by omega)]; simp)]
      rw [put_fit hr f1' (by omega), p0]
  · unfold putR
    rw [if_pos (by unfold Dsk.putE; rw [if_pos ⟨h, f0⟩, if_neg hc]; decide), if_neg hc]
theorem rd_in {d : Dsk} {i : Nat} (h : right d) (hi : i < d.secs.length) : d.rd i = (d.read i, 0) := by
  unfold Dsk.rd
  rw [if_pos ⟨h, by omega, by omega⟩, Int.toNat_natCast]
section
variable {P : Program} {F : Nat → Nat}
set_option maxHeartbeats 8000000 in
set_option maxRecDepth 100000 in
theorem rfinish_ok (R : KRV P F) (d : Dv) (at_ : Int) (fault : Bool) (W : EDv.wf d) (S : SmallV d) :
    FnOk P (F 173) [.many 4 (dvE d), .one (.int .i64 at_), .one (.bool fault)] [.many 4 (fun j => .im (dvE (finD d at_ fault).1 j)), .many 4 (fun j => .im (rqE (finD d at_ fault).2.1 j)), .one (.im (.int .i64 (finD d at_ fault).2.2))] := by
  refine fnOk R.r.m R.finish ?_
  have hf := S.f
  repeat' first
    | (with_reducible first | refine NeedI.mk (fun h => h) ?_ | refine NeedI.mk (fun h => h.2) ?_ | refine NeedI.mk (fun h => h.1) ?_ | (show Done; exact Done.mk) | refine Both.mk (fun _ => ?_) (fun _ => ?_) | refine Both2.mk (fun _ => ?_) ?_ | (refine Need.mk ?_ ?_; (first | omega | with_reducible exact CEq.refl _ | (dsimp only; omega) | (dsimp only [rng]; omega) | (rw [Int.toNat_natCast]; omega))))
    | ((with_reducible refine Need.mk ?_ ?_); exact CEq.refl _)
    | ((with_reducible fail_if_success first | refine LoopVC.mk ?_ | refine Need.mk ?_ ?_ | refine CallVC.mk ?_ | refine LoopEnd.mk ?_ | refine Out.mk ?_ | show False | refine NeedI.mk ?_ ?_); conv => whnf)
  refine CallVC.mk' (fun _ => rrightV_ok R d W) (fun _ => .cons ((.many fun j hj => by (rcases (show j = 0 ∨ j = 1 ∨ j = 2 ∨ j = 3 by omega) with rfl | rfl | rfl | rfl <;> exact CEq.refl _))) .nil) ?_
  repeat' first
    | (with_reducible first | refine NeedI.mk (fun h => h) ?_ | refine NeedI.mk (fun h => h.2) ?_ | refine NeedI.mk (fun h => h.1) ?_ | (show Done; exact Done.mk) | refine Both.mk (fun _ => ?_) (fun _ => ?_) | refine Both2.mk (fun _ => ?_) ?_ | (refine Need.mk ?_ ?_; (first | omega | with_reducible exact CEq.refl _ | (dsimp only; omega) | (dsimp only [rng]; omega) | (rw [Int.toNat_natCast]; omega))))
    | ((with_reducible refine Need.mk ?_ ?_); exact CEq.refl _)
    | ((with_reducible fail_if_success first | refine LoopVC.mk ?_ | refine Need.mk ?_ ?_ | refine CallVC.mk ?_ | refine LoopEnd.mk ?_ | refine Out.mk ?_ | show False | refine NeedI.mk ?_ ?_); conv => whnf)
  · rename_i h
    have h : finNo d at_ := by
      simp only [Bool.or_eq_true, Bool.not_eq_true', decide_eq_false_iff_not, decide_eq_true_eq, or_assoc] at h
      exact h
    rw [show finD d at_ fault = (d, ⟨0, 0, 0, []⟩, 1) from if_pos h]
    repeat' first
      | (with_reducible first | refine NeedI.mk (fun h => h) ?_ | refine NeedI.mk (fun h => h.2) ?_ | refine NeedI.mk (fun h => h.1) ?_ | (show Done; exact Done.mk) | refine Both.mk (fun _ => ?_) (fun _ => ?_) | refine Both2.mk (fun _ => ?_) ?_ | (refine Need.mk ?_ ?_; (first | omega | with_reducible exact CEq.refl _ | (dsimp only; omega) | (dsimp only [rng]; omega) | (rw [Int.toNat_natCast]; omega))))
      | ((with_reducible refine Need.mk ?_ ?_); exact CEq.refl _)
      | ((with_reducible fail_if_success first | refine LoopVC.mk ?_ | refine Need.mk ?_ ?_ | refine CallVC.mk ?_ | refine LoopEnd.mk ?_ | refine Out.mk ?_ | show False | refine NeedI.mk ?_ ?_); conv => whnf)
  rename_i h
  have h : ¬ finNo d at_ := by
    simp only [Bool.or_eq_false_iff, Bool.not_eq_false', decide_eq_false_iff_not, decide_eq_true_eq] at h
    rintro (x | x | x)
    · exact x h.1.1
    · exact h.1.2 x
    · exact h.2 x
  have hv : rightV d := Classical.byContradiction fun x => h (.inl x)
  have ha0 : 0 ≤ at_ := by have : ¬ at_ < 0 := fun x => h (.inr (.inl x)); omega
  obtain ⟨a, rfl⟩ : ∃ i : Nat, at_ = i := ⟨at_.toNat, by omega⟩
  have ha : a < d.flight.length := by have : ¬ (d.flight.length : Int) ≤ a := fun x => h (.inr (.inr x)); omega
  have hn := hv.2.1
  have hok := (hv.2.2 a ha).2.2
  refine LoopVC.inv (fun i : Nat => i ≤ d.flight.length) (fun i => stL [(1, .c (.int .i64 a)), (2, .c (.bool fault)), (3, .va 3 0 0), (6, .va 6 0 0), (7, .va 7 0 0), (9, .va 9 0 0), (10, .c (.int .i64 i))]
    [(3, vE [.c (slL 1 strE d.disk.secs), .c (slL 2 wrE d.disk.cache), .c (.int .i64 d.next), .c (slL 4 rqE d.flight)]), (6, vE [.nil 1, .nil 2, .c (.int .i64 0), .nil 4]), (7, vE [.c (.int .i64 0), .c (.int .i64 0), .c (.int .i64 0), .c (.str [])]),
     (9, vE [.c (slL 1 strE d.disk.secs), .c (slL 2 wrE d.disk.cache), .c (.int .i64 d.next), .os 54 0 4 0 (without (d.flight.take i) a).length]), (54, ⟨4, (without (d.flight.take i) a).length, .dat fun r j => rqE ((without (d.flight.take i) a).getD r default) j, false, true⟩)]) (fun i => d.flight.length - i) 0 (Nat.zero_le _) ?_ ?_
  · have hw0 : without (d.flight.take 0) a = [] := by unfold without; simp
    rw [hw0]
    (refine Le.ofN [54] ?_ ?_ <;> repeat' first | exact trivial | exact SubF.inr ⟨_, _, _, rfl, rfl, rfl⟩ | exact SubF.inl (cI (by push_cast; first | rfl | omega)) | exact SubF.inl (CEq.refl _) | exact SubF.inl rfl | exact SubF.inl trivial | exact SubF.inl ⟨rfl, rfl, rfl⟩ | exact SubF.inl ⟨rfl, rfl, rfl, rfl, rfl⟩ | exact Or.inl ⟨rfl, rfl⟩ | refine Or.inr ⟨rfl, _, rfl, ?_⟩ | refine SubEF.var2 ?_ ?_ | refine SubEF.var1 ?_ | refine SubEF.var3 ?_ ?_ ?_ | refine SubEF.var4 ?_ ?_ ?_ ?_ | exact SubEF.of (SubE.dat fun _ _ _ _ => CEq.refl _) | refine And.intro ?_ ?_ | refine SubF.frz rfl rfl rfl rfl (Nat.le_of_eq (Nat.zero_add _)) rfl rfl ?_)
  rintro Q hQ i hi
  have hwl : (without (d.flight.take i) a).length ≤ d.flight.length := wo_len
  repeat' first
    | (with_reducible first | refine NeedI.mk (fun h => h) ?_ | refine NeedI.mk (fun h => h.2) ?_ | refine NeedI.mk (fun h => h.1) ?_ | (show Done; exact Done.mk) | refine Both.mk (fun _ => ?_) (fun _ => ?_) | refine Both2.mk (fun _ => ?_) ?_ | (refine Need.mk ?_ ?_; (first | omega | with_reducible exact CEq.refl _ | (dsimp only; omega) | (dsimp only [rng]; omega) | (rw [Int.toNat_natCast]; omega))))
    | ((with_reducible refine Need.mk ?_ ?_); exact CEq.refl _)
    | ((with_reducible fail_if_success first | refine LoopVC.mk ?_ | refine Need.mk ?_ ?_ | refine CallVC.mk ?_ | refine LoopEnd.mk ?_ | refine Out.mk ?_ | show False | refine NeedI.mk ?_ ?_); conv => whnf)
  · rename_i g1 g2
    have g1 : i < d.flight.length := by have := of_decide_eq_true g1; omega
    have g2 : i ≠ a := by simp only [Bool.not_eq_true', decide_eq_false_iff_not] at g2; omega
    repeat' first
      | (with_reducible first | refine NeedI.mk (fun h => h) ?_ | refine NeedI.mk (fun h => h.2) ?_ | refine NeedI.mk (fun h => h.1) ?_ | (show Done; exact Done.mk) | refine Both.mk (fun _ => ?_) (fun _ => ?_) | refine Both2.mk (fun _ => ?_) ?_ | (refine Need.mk ?_ ?_; (first | omega | with_reducible exact CEq.refl _ | (dsimp only; omega) | (dsimp only [rng]; omega) | (rw [Int.toNat_natCast]; omega))))
      | ((with_reducible refine Need.mk ?_ ?_); exact CEq.refl _)
      | ((with_reducible fail_if_success first | refine LoopVC.mk ?_ | refine Need.mk ?_ ?_ | refine CallVC.mk ?_ | refine LoopEnd.mk ?_ | refine Out.mk ?_ | show False | refine NeedI.mk ?_ ?_); conv => whnf)
    refine LoopEnd.mk ⟨i + 1, g1, by omega, ?_⟩
    have e := wo_step g1 g2
    have el : (without (d.flight.take (i + 1)) a).length = (without (d.flight.take i) a).length + 1 := by rw [e]; simp
    rw [el]
    (refine Le.of ?_ ?_ <;> repeat' first | exact trivial | exact CEq.refl _ | exact rfl | exact cI (by push_cast; first | rfl | omega) | exact SubE.dat fun _ _ _ _ => CEq.refl _ | refine SubE.var2 ?_ ?_ | refine SubE.var1 ?_ | refine SubE.var3 ?_ ?_ ?_ | refine SubE.var4 ?_ ?_ ?_ ?_ | refine SubE.var5 ?_ ?_ ?_ ?_ ?_ | refine Exists.intro _ (And.intro rfl ?_) | refine And.intro ?_ ?_)
    refine SubE.dat fun r hr j hj => ?_
    have hr : r < (without (d.flight.take i) a).length + 1 := hr
    rw [e]
    exact (IsL.app (size := 4) (enc := rqE) (l := without (d.flight.take i) a) IsL.refl rfl (IsL.one (x := d.flight.getD i default) fun j hj => by
      rcases (show j = 0 ∨ j = 1 ∨ j = 2 ∨ j = 3 by omega) with rfl | rfl | rfl | rfl <;> exact CEq.refl _)) r (by simpa using hr) j hj
  · rename_i g1 g2
    have g1 : i < d.flight.length := by have := of_decide_eq_true g1; omega
    have g2 : i = a := by simp only [Bool.not_eq_false', decide_eq_true_eq] at g2; omega
    subst g2
    refine LoopEnd.mk ⟨i + 1, g1, by omega, ?_⟩
    rw [wo_same g1]
    (refine Le.of ?_ ?_ <;> repeat' first | exact trivial | exact CEq.refl _ | exact rfl | exact cI (by push_cast; first | rfl | omega) | exact SubE.dat fun _ _ _ _ => CEq.refl _ | refine SubE.var2 ?_ ?_ | refine SubE.var1 ?_ | refine SubE.var3 ?_ ?_ ?_ | refine SubE.var4 ?_ ?_ ?_ ?_ | refine SubE.var5 ?_ ?_ ?_ ?_ ?_ | refine Exists.intro _ (And.intro rfl ?_) | refine And.intro ?_ ?_)
  · rename_i g1
    have g1 : i = d.flight.length := by have := of_decide_eq_false g1; omega
    have hr := S.lf _ (getD_mem ha)
    have hfin : finD d a fault = if fault then (⟨d.disk, d.next, without d.flight a⟩, d.flight.getD a default, 8) else fin1 d (d.flight.getD a default) (without d.flight a) := by
      unfold finD; rw [if_neg h, Int.toNat_natCast]
    refine Out.mk (hQ _ _ ?_)
    rw [hfin]
    clear hfin hQ
    rw [g1, List.take_length]
    rw [g1, List.take_length] at hwl
    have hceq : CEq (Cell.sl 4 (without d.flight a).length fun r j => rqE ((without d.flight a).getD (addN 0 r) default) j) (slL 4 rqE (without d.flight a)) := (IsL.refl (l := without d.flight a)).off.ceq rfl
    repeat' first
      | (with_reducible first | refine NeedI.mk (fun h => h) ?_ | refine NeedI.mk (fun h => h.2) ?_ | refine NeedI.mk (fun h => h.1) ?_ | (show Done; exact Done.mk) | refine Both.mk (fun _ => ?_) (fun _ => ?_) | refine Both2.mk (fun _ => ?_) ?_ | (refine Need.mk ?_ ?_; (first | omega | with_reducible exact CEq.refl _ | (dsimp only; omega) | (dsimp only [rng]; omega) | (rw [Int.toNat_natCast]; omega))))
      | ((with_reducible refine Need.mk ?_ ?_); exact CEq.refl _)
      | ((with_reducible fail_if_success first | refine LoopVC.mk ?_ | refine Need.mk ?_ ?_ | refine CallVC.mk ?_ | refine LoopEnd.mk ?_ | refine Out.mk ?_ | show False | refine NeedI.mk ?_ ?_); conv => whnf)
    · rename_i h2
      rw [Int.toNat_natCast]
      generalize d.flight.getD a default = r at *
      generalize without d.flight a = lw at *
      rw [if_pos h2]
      repeat' first
        | (with_reducible first | refine NeedI.mk (fun h => h) ?_ | refine NeedI.mk (fun h => h.2) ?_ | refine NeedI.mk (fun h => h.1) ?_ | (show Done; exact Done.mk) | refine Both.mk (fun _ => ?_) (fun _ => ?_) | refine Both2.mk (fun _ => ?_) ?_ | (refine Need.mk ?_ ?_; (first | omega | with_reducible exact CEq.refl _ | (dsimp only; omega) | (dsimp only [rng]; omega) | (rw [Int.toNat_natCast]; omega))))
        | ((with_reducible refine Need.mk ?_ ?_); exact CEq.refl _)
        | ((with_reducible fail_if_success first | refine LoopVC.mk ?_ | refine Need.mk ?_ ?_ | refine CallVC.mk ?_ | refine LoopEnd.mk ?_ | refine Out.mk ?_ | show False | refine NeedI.mk ?_ ?_); conv => whnf)
    rename_i h2
    rw [Int.toNat_natCast, if_neg (by rw [h2]; simp)]
    generalize d.flight.getD a default = r at *
    generalize without d.flight a = lw at *
    have hp : 0 ≤ r.page ∧ r.page ≤ 16 := by rcases hok with x | x | x <;> omega
    have hc := S.k.c
    have hd := hv.1
    unfold fin1
    repeat' first
      | (with_reducible first | refine NeedI.mk (fun h => h) ?_ | refine NeedI.mk (fun h => h.2) ?_ | refine NeedI.mk (fun h => h.1) ?_ | (show Done; exact Done.mk) | refine Both.mk (fun _ => ?_) (fun _ => ?_) | refine Both2.mk (fun _ => ?_) ?_ | (refine Need.mk ?_ ?_; (first | omega | with_reducible exact CEq.refl _ | (dsimp only; omega) | (dsimp only [rng]; omega) | (rw [Int.toNat_natCast]; omega))))
      | ((with_reducible refine Need.mk ?_ ?_); exact CEq.refl _)
      | ((with_reducible fail_if_success first | refine LoopVC.mk ?_ | refine Need.mk ?_ ?_ | refine CallVC.mk ?_ | refine LoopEnd.mk ?_ | refine Out.mk ?_ | show False | refine NeedI.mk ?_ ?_); conv => whnf)
    · rename_i h3
      have h3 := of_decide_eq_true h3
      obtain ⟨p1, p2⟩ : 1 ≤ r.page ∧ r.page ≤ 16 := by rcases hok with x | x | x <;> omega
      rw [if_pos h3]
      obtain ⟨p, hpe⟩ : ∃ p : Nat, r.page = p := ⟨r.page.toNat, by omega⟩
      have htwo : two d.disk r.page = d.disk.read (2 * p + 1) ++ d.disk.read (2 * p + 2) := by
        unfold two hm
        rw [show 2 * r.page + 1 = ((2 * p + 1 : Nat) : Int) by omega, show ((2 * p + 1 : Nat) : Int) + 1 = ((2 * p + 2 : Nat) : Int) by omega, rd_in hd.1 (by omega), rd_in hd.1 (by omega)]
      rw [htwo]
      refine CallVC.mk' (fun _ => rread_ok R.r d.disk (2 * p + 1) S.k (by omega)) (fun _ => .cons ((.many fun j hj => by (rcases (show j = 0 ∨ j = 1 by omega) with rfl | rfl <;> exact CEq.refl _))) (.cons (.one (eI (by omega))) .nil)) ?_
      repeat' first
        | (with_reducible first | refine NeedI.mk (fun h => h) ?_ | refine NeedI.mk (fun h => h.2) ?_ | refine NeedI.mk (fun h => h.1) ?_ | (show Done; exact Done.mk) | refine Both.mk (fun _ => ?_) (fun _ => ?_) | refine Both2.mk (fun _ => ?_) ?_ | (refine Need.mk ?_ ?_; (first | omega | with_reducible exact CEq.refl _ | (dsimp only; omega) | (dsimp only [rng]; omega) | (rw [Int.toNat_natCast]; omega))))
        | ((with_reducible refine Need.mk ?_ ?_); exact CEq.refl _)
        | ((with_reducible fail_if_success first | refine LoopVC.mk ?_ | refine Need.mk ?_ ?_ | refine CallVC.mk ?_ | refine LoopEnd.mk ?_ | refine Out.mk ?_ | show False | refine NeedI.mk ?_ ?_); conv => whnf)
      refine CallVC.mk' (fun _ => rread_ok R.r d.disk (2 * p + 2) S.k (by omega)) (fun _ => .cons ((.many fun j hj => by (rcases (show j = 0 ∨ j = 1 by omega) with rfl | rfl <;> exact CEq.refl _))) (.cons (.one (eI (by omega))) .nil)) ?_
      have l1 : (d.disk.read (2 * p + 1)).length ≤ 1000000 := by have := Small_len S.k ((2 * p + 1 : Nat) : Int); rw [rd_in hd.1 (by omega)] at this; exact this
      have l2 : (d.disk.read (2 * p + 2)).length ≤ 1000000 := by have := Small_len S.k ((2 * p + 2 : Nat) : Int); rw [rd_in hd.1 (by omega)] at this; exact this
      repeat' first
        | (with_reducible first | refine NeedI.mk (fun h => h) ?_ | refine NeedI.mk (fun h => h.2) ?_ | refine NeedI.mk (fun h => h.1) ?_ | (show Done; exact Done.mk) | refine Both.mk (fun _ => ?_) (fun _ => ?_) | refine Both2.mk (fun _ => ?_) ?_ | (refine Need.mk ?_ ?_; (first | omega | with_reducible exact CEq.refl _ | (dsimp only; omega) | (dsimp only [rng]; omega) | (rw [Int.toNat_natCast]; omega))))
        | ((with_reducible refine Need.mk ?_ ?_); exact CEq.refl _)
        | ((with_reducible fail_if_success first | refine LoopVC.mk ?_ | refine Need.mk ?_ ?_ | refine CallVC.mk ?_ | refine LoopEnd.mk ?_ | refine Out.mk ?_ | show False | refine NeedI.mk ?_ ?_); conv => whnf)
    · rename_i h3 h4 h5
      have h3 := of_decide_eq_false h3
      have h4 := of_decide_eq_true h4
      have h5 := of_decide_eq_true h5
      rw [if_neg h3, if_pos h4]
      obtain ⟨⟨p1, p2⟩, p3⟩ : (1 ≤ r.page ∧ r.page ≤ 16) ∧ r.data.length = 32 := by rcases hok with x | x | x <;> omega
      rw [putR_eq hd.1 hd.2 p3 p1 p2, if_pos (by omega)]
      have wr2 : ∀ (g : Nat → Nat → Cell) (w : Wr), CEq (g 0 0) (.int .i64 w.at_) → CEq (g 0 1) (.str w.data) → IsL 2 wrE [w] g := fun g w e0 e1 => IsL.one fun j hj => by
        rcases (show j = 0 ∨ j = 1 by omega) with rfl | rfl
        · exact e0
        · exact e1
      repeat' first
        | (with_reducible first | refine NeedI.mk (fun h => h) ?_ | refine NeedI.mk (fun h => h.2) ?_ | refine NeedI.mk (fun h => h.1) ?_ | (show Done; exact Done.mk) | refine Both.mk (fun _ => ?_) (fun _ => ?_) | refine Both2.mk (fun _ => ?_) ?_ | (refine Need.mk ?_ ?_; (first | omega | with_reducible exact CEq.refl _ | (dsimp only; omega) | (dsimp only [rng]; omega) | (rw [Int.toNat_natCast]; omega))))
        | ((with_reducible refine Need.mk ?_ ?_); exact CEq.refl _)
        | ((with_reducible fail_if_success first | refine LoopVC.mk ?_ | refine Need.mk ?_ ?_ | refine CallVC.mk ?_ | refine LoopEnd.mk ?_ | refine Out.mk ?_ | show False | refine NeedI.mk ?_ ?_); conv => whnf)
      · rename_i g1 g2
        rw [g2] at g1; cases g1
      · rename_i g1 g2
        have g2 := of_decide_eq_false g2
        rw [if_neg (by omega)]
        repeat' first
          | (with_reducible first | refine NeedI.mk (fun h => h) ?_ | refine NeedI.mk (fun h => h.2) ?_ | refine NeedI.mk (fun h => h.1) ?_ | (show Done; exact Done.mk) | refine Both.mk (fun _ => ?_) (fun _ => ?_) | refine Both2.mk (fun _ => ?_) ?_ | (refine Need.mk ?_ ?_; (first | omega | with_reducible exact CEq.refl _ | (dsimp only; omega) | (dsimp only [rng]; omega) | (rw [Int.toNat_natCast]; omega))))
          | ((with_reducible refine Need.mk ?_ ?_); exact CEq.refl _)
          | ((with_reducible fail_if_success first | refine LoopVC.mk ?_ | refine Need.mk ?_ ?_ | refine CallVC.mk ?_ | refine LoopEnd.mk ?_ | refine Out.mk ?_ | show False | refine NeedI.mk ?_ ?_); conv => whnf)
        refine Need.mk ((IsL.app (IsL.app (size := 2) (enc := wrE) (l := d.disk.cache) IsL.refl rfl (wr2 _ (w0 r) (CEq.refl _) (CEq.refl _))) (by simp) (wr2 _ (w1 r) (CEq.refl _) (CEq.refl _))).off.ceq (by simp)) ?_
        repeat' first
          | (with_reducible first | refine NeedI.mk (fun h => h) ?_ | refine NeedI.mk (fun h => h.2) ?_ | refine NeedI.mk (fun h => h.1) ?_ | (show Done; exact Done.mk) | refine Both.mk (fun _ => ?_) (fun _ => ?_) | refine Both2.mk (fun _ => ?_) ?_ | (refine Need.mk ?_ ?_; (first | omega | with_reducible exact CEq.refl _ | (dsimp only; omega) | (dsimp only [rng]; omega) | (rw [Int.toNat_natCast]; omega))))
          | ((with_reducible refine Need.mk ?_ ?_); exact CEq.refl _)
          | ((with_reducible fail_if_success first | refine LoopVC.mk ?_ | refine Need.mk ?_ ?_ | refine CallVC.mk ?_ | refine LoopEnd.mk ?_ | refine Out.mk ?_ | show False | refine NeedI.mk ?_ ?_); conv => whnf)
      · rename_i g1 g2
        have g2 := of_decide_eq_true g2
        rw [if_pos (by omega)]
        repeat' first
          | (with_reducible first | refine NeedI.mk (fun h => h) ?_ | refine NeedI.mk (fun h => h.2) ?_ | refine NeedI.mk (fun h => h.1) ?_ | (show Done; exact Done.mk) | refine Both.mk (fun _ => ?_) (fun _ => ?_) | refine Both2.mk (fun _ => ?_) ?_ | (refine Need.mk ?_ ?_; (first | omega | with_reducible exact CEq.refl _ | (dsimp only; omega) | (dsimp only [rng]; omega) | (rw [Int.toNat_natCast]; omega))))
          | ((with_reducible refine Need.mk ?_ ?_); exact CEq.refl _)
          | ((with_reducible fail_if_success first | refine LoopVC.mk ?_ | refine Need.mk ?_ ?_ | refine CallVC.mk ?_ | refine LoopEnd.mk ?_ | refine Out.mk ?_ | show False | refine NeedI.mk ?_ ?_); conv => whnf)
        refine Need.mk ((IsL.app (size := 2) (enc := wrE) (l := d.disk.cache) IsL.refl rfl (wr2 _ (w0 r) (CEq.refl _) (CEq.refl _))).off.ceq (by simp)) ?_
        repeat' first
          | (with_reducible first | refine NeedI.mk (fun h => h) ?_ | refine NeedI.mk (fun h => h.2) ?_ | refine NeedI.mk (fun h => h.1) ?_ | (show Done; exact Done.mk) | refine Both.mk (fun _ => ?_) (fun _ => ?_) | refine Both2.mk (fun _ => ?_) ?_ | (refine Need.mk ?_ ?_; (first | omega | with_reducible exact CEq.refl _ | (dsimp only; omega) | (dsimp only [rng]; omega) | (rw [Int.toNat_natCast]; omega))))
          | ((with_reducible refine Need.mk ?_ ?_); exact CEq.refl _)
          | ((with_reducible fail_if_success first | refine LoopVC.mk ?_ | refine Need.mk ?_ ?_ | refine CallVC.mk ?_ | refine LoopEnd.mk ?_ | refine Out.mk ?_ | show False | refine NeedI.mk ?_ ?_); conv => whnf)
      · rename_i g1 g2
        rw [g2] at g1; cases g1
    · rename_i h3 h4 h5
      have h3 := of_decide_eq_false h3
      have h4 := of_decide_eq_true h4
      have h5 := of_decide_eq_false h5
      rw [if_neg h3, if_pos h4]
      obtain ⟨⟨p1, p2⟩, p3⟩ : (1 ≤ r.page ∧ r.page ≤ 16) ∧ r.data.length = 32 := by rcases hok with x | x | x <;> omega
      rw [putR_eq hd.1 hd.2 p3 p1 p2, if_neg (by omega)]
      repeat' first
        | (with_reducible first | refine NeedI.mk (fun h => h) ?_ | refine NeedI.mk (fun h => h.2) ?_ | refine NeedI.mk (fun h => h.1) ?_ | (show Done; exact Done.mk) | refine Both.mk (fun _ => ?_) (fun _ => ?_) | refine Both2.mk (fun _ => ?_) ?_ | (refine Need.mk ?_ ?_; (first | omega | with_reducible exact CEq.refl _ | (dsimp only; omega) | (dsimp only [rng]; omega) | (rw [Int.toNat_natCast]; omega))))
        | ((with_reducible refine Need.mk ?_ ?_); exact CEq.refl _)
        | ((with_reducible fail_if_success first | refine LoopVC.mk ?_ | refine Need.mk ?_ ?_ | refine CallVC.mk ?_ | refine LoopEnd.mk ?_ | refine Out.mk ?_ | show False | refine NeedI.mk ?_ ?_); conv => whnf)
    · rename_i h3 h4
      have h3 := of_decide_eq_false h3
      have h4 := of_decide_eq_false h4
      rw [if_neg h3, if_neg h4, sync_ref hd.1]
      refine CallVC.mk' (fun _ => rsync_ok R.r d.disk S.k) (fun _ => .cons ((.many fun j hj => by (rcases (show j = 0 ∨ j = 1 by omega) with rfl | rfl <;> exact CEq.refl _))) .nil) ?_
      repeat' first
        | (with_reducible first | refine NeedI.mk (fun h => h) ?_ | refine NeedI.mk (fun h => h.2) ?_ | refine NeedI.mk (fun h => h.1) ?_ | (show Done; exact Done.mk) | refine Both.mk (fun _ => ?_) (fun _ => ?_) | refine Both2.mk (fun _ => ?_) ?_ | (refine Need.mk ?_ ?_; (first | omega | with_reducible exact CEq.refl _ | (dsimp only; omega) | (dsimp only [rng]; omega) | (rw [Int.toNat_natCast]; omega))))
        | ((with_reducible refine Need.mk ?_ ?_); exact CEq.refl _)
        | ((with_reducible fail_if_success first | refine LoopVC.mk ?_ | refine Need.mk ?_ ?_ | refine CallVC.mk ?_ | refine LoopEnd.mk ?_ | refine Out.mk ?_ | show False | refine NeedI.mk ?_ ?_); conv => whnf)
end
end Lk.S04
namespace Lk.S04
open Go Lk Lk.C Lk.S03
def zz : List UInt8 := List.replicate 16 0
def z35 : List (List UInt8) := List.replicate 35 zz
def v0 : Dv := ⟨⟨z35, []⟩, 0, []⟩
def dt : List UInt8 := [48, 49, 50, 51, 52, 53, 54, 55, 56, 57, 97, 98, 99, 100, 101, 102, 48, 49, 50, 51, 52, 53, 54, 55, 56, 57, 65, 66, 67, 68, 69, 70]
def ra : Rq := ⟨0, 2, 1, dt⟩
def rb : Rq := ⟨1, 1, 1, []⟩
def v1 : Dv := ⟨⟨z35, []⟩, 1, [ra]⟩
def v2 : Dv := ⟨⟨z35, []⟩, 2, [ra, rb]⟩
def v3 : Dv := ⟨⟨z35, [⟨3, dt.take 16⟩, ⟨4, dt.drop 16⟩]⟩, 2, [rb]⟩
def v4 : Dv := ⟨⟨z35, [⟨3, dt.take 16⟩, ⟨4, dt.drop 16⟩]⟩, 2, []⟩
theorem new35 : newD 35 = ⟨z35, []⟩ := by decide +kernel
theorem new35E : newE 35 = 0 := by decide +kernel
theorem a1 : subm v0 2 1 dt = (v1, 0, 0) := by decide +kernel
theorem a2 : subm v1 1 1 [] = (v2, 1, 0) := by decide +kernel
theorem a3 : finD v2 0 false = (v3, ra, 0) := by decide +kernel
theorem a4 : finD v3 0 false = (v4, ⟨1, 1, 1, dt⟩, 0) := by decide +kernel
theorem sv0 : SmallV v0 := ⟨⟨by decide, by decide, by decide +kernel, by decide +kernel⟩, by decide, by decide +kernel⟩
theorem sv1 : SmallV v1 := ⟨⟨by decide, by decide, by decide +kernel, by decide +kernel⟩, by decide, by decide +kernel⟩
theorem sv2 : SmallV v2 := ⟨⟨by decide, by decide, by decide +kernel, by decide +kernel⟩, by decide, by decide +kernel⟩
theorem sv3 : SmallV v3 := ⟨⟨by decide, by decide, by decide +kernel, by decide +kernel⟩, by decide, by decide +kernel⟩
section
variable {P : Program} {F : Nat → Nat}
structure KLV (P : Program) (F : Nat → Nat) : Prop where
  k : KDev P F
  r : KRV P F
  new : law04_New_k P F
  awake : law04_awake_k P F
set_option maxHeartbeats 8000000 in
set_option maxRecDepth 100000 in
theorem new_ok (K : KDev P F) (hk : law04_New_k P F) : FnOk P (F 172) [] [.many 4 (fun j => .im (dvE v0 j))] := by
  refine fnOk K.k.m hk ?_
  repeat' first
    | (with_reducible first | refine NeedI.mk (fun h => h) ?_ | refine NeedI.mk (fun h => h.2) ?_ | refine NeedI.mk (fun h => h.1) ?_ | (show Done; exact Done.mk) | refine Both.mk (fun _ => ?_) (fun _ => ?_) | refine Both2.mk (fun _ => ?_) ?_ | (refine Need.mk ?_ ?_; (first | omega | with_reducible exact CEq.refl _ | (dsimp only; omega) | (dsimp only [rng]; omega) | (rw [Int.toNat_natCast]; omega))))
    | ((with_reducible refine Need.mk ?_ ?_); exact CEq.refl _)
    | ((with_reducible fail_if_success first | refine LoopVC.mk ?_ | refine Need.mk ?_ ?_ | refine CallVC.mk ?_ | refine LoopEnd.mk ?_ | refine Out.mk ?_ | show False | refine NeedI.mk ?_ ?_); conv => whnf)
  refine CallVC.mk' (fun _ => S03.new_ok K.k.m K.k.new 35 K.k.rep) (fun _ => .cons (.one (CEq.refl _)) .nil) ?_
  rw [new35, new35E]
  repeat' first
    | (with_reducible first | refine NeedI.mk (fun h => h) ?_ | refine NeedI.mk (fun h => h.2) ?_ | refine NeedI.mk (fun h => h.1) ?_ | (show Done; exact Done.mk) | refine Both.mk (fun _ => ?_) (fun _ => ?_) | refine Both2.mk (fun _ => ?_) ?_ | (refine Need.mk ?_ ?_; (first | omega | with_reducible exact CEq.refl _ | (dsimp only; omega) | (dsimp only [rng]; omega) | (rw [Int.toNat_natCast]; omega))))
    | ((with_reducible refine Need.mk ?_ ?_); exact CEq.refl _)
    | ((with_reducible fail_if_success first | refine LoopVC.mk ?_ | refine Need.mk ?_ ?_ | refine CallVC.mk ?_ | refine LoopEnd.mk ?_ | refine Out.mk ?_ | show False | refine NeedI.mk ?_ ?_); conv => whnf)
  refine Need.mk ceq_nil ?_
  repeat' first
    | (with_reducible first | refine NeedI.mk (fun h => h) ?_ | refine NeedI.mk (fun h => h.2) ?_ | refine NeedI.mk (fun h => h.1) ?_ | (show Done; exact Done.mk) | refine Both.mk (fun _ => ?_) (fun _ => ?_) | refine Both2.mk (fun _ => ?_) ?_ | (refine Need.mk ?_ ?_; (first | omega | with_reducible exact CEq.refl _ | (dsimp only; omega) | (dsimp only [rng]; omega) | (rw [Int.toNat_natCast]; omega))))
    | ((with_reducible refine Need.mk ?_ ?_); exact CEq.refl _)
    | ((with_reducible fail_if_success first | refine LoopVC.mk ?_ | refine Need.mk ?_ ?_ | refine CallVC.mk ?_ | refine LoopEnd.mk ?_ | refine Out.mk ?_ | show False | refine NeedI.mk ?_ ?_); conv => whnf)
set_option maxHeartbeats 8000000 in
set_option maxRecDepth 100000 in
theorem awake_ok (L : KLV P F) : FnOk P (F 167) [] [.one (.im (.bool true))] := by
  have K := L.k
  refine fnOk K.k.m L.awake ?_
  repeat' first
    | (with_reducible first | refine NeedI.mk (fun h => h) ?_ | refine NeedI.mk (fun h => h.2) ?_ | refine NeedI.mk (fun h => h.1) ?_ | (show Done; exact Done.mk) | refine Both.mk (fun _ => ?_) (fun _ => ?_) | refine Both2.mk (fun _ => ?_) ?_ | (refine Need.mk ?_ ?_; (first | omega | with_reducible exact CEq.refl _ | (dsimp only; omega) | (dsimp only [rng]; omega) | (rw [Int.toNat_natCast]; omega))))
    | ((with_reducible refine Need.mk ?_ ?_); exact CEq.refl _)
    | ((with_reducible fail_if_success first | refine LoopVC.mk ?_ | refine Need.mk ?_ ?_ | refine CallVC.mk ?_ | refine LoopEnd.mk ?_ | refine Out.mk ?_ | show False | refine NeedI.mk ?_ ?_); conv => whnf)
  refine CallVC.mk' (fun _ => new_ok K L.new) (fun _ => .nil) ?_
  repeat' first
    | (with_reducible first | refine NeedI.mk (fun h => h) ?_ | refine NeedI.mk (fun h => h.2) ?_ | refine NeedI.mk (fun h => h.1) ?_ | (show Done; exact Done.mk) | refine Both.mk (fun _ => ?_) (fun _ => ?_) | refine Both2.mk (fun _ => ?_) ?_ | (refine Need.mk ?_ ?_; (first | omega | with_reducible exact CEq.refl _ | (dsimp only; omega) | (dsimp only [rng]; omega) | (rw [Int.toNat_natCast]; omega))))
    | ((with_reducible refine Need.mk ?_ ?_); exact CEq.refl _)
    | ((with_reducible fail_if_success first | refine LoopVC.mk ?_ | refine Need.mk ?_ ?_ | refine CallVC.mk ?_ | refine LoopEnd.mk ?_ | refine Out.mk ?_ | show False | refine NeedI.mk ?_ ?_); conv => whnf)
  refine CallVC.mk' (fun _ => submit_ok K v0 2 1 dt sv0 (by decide)) (fun _ => .cons ((.many fun j hj => by (rcases (show j = 0 ∨ j = 1 ∨ j = 2 ∨ j = 3 by omega) with rfl | rfl | rfl | rfl <;> exact CEq.refl _))) (.cons (.one (CEq.refl _)) (.cons (.one (CEq.refl _)) (.cons (.one (CEq.refl _)) .nil)))) ?_
  rw [a1]
  repeat' first
    | (with_reducible first | refine NeedI.mk (fun h => h) ?_ | refine NeedI.mk (fun h => h.2) ?_ | refine NeedI.mk (fun h => h.1) ?_ | (show Done; exact Done.mk) | refine Both.mk (fun _ => ?_) (fun _ => ?_) | refine Both2.mk (fun _ => ?_) ?_ | (refine Need.mk ?_ ?_; (first | omega | with_reducible exact CEq.refl _ | (dsimp only; omega) | (dsimp only [rng]; omega) | (rw [Int.toNat_natCast]; omega))))
    | ((with_reducible refine Need.mk ?_ ?_); exact CEq.refl _)
    | ((with_reducible fail_if_success first | refine LoopVC.mk ?_ | refine Need.mk ?_ ?_ | refine CallVC.mk ?_ | refine LoopEnd.mk ?_ | refine Out.mk ?_ | show False | refine NeedI.mk ?_ ?_); conv => whnf)
  refine CallVC.mk' (fun _ => submit_ok K v1 1 1 [] sv1 (by decide)) (fun _ => .cons ((.many fun j hj => by (rcases (show j = 0 ∨ j = 1 ∨ j = 2 ∨ j = 3 by omega) with rfl | rfl | rfl | rfl <;> exact CEq.refl _))) (.cons (.one (CEq.refl _)) (.cons (.one (CEq.refl _)) (.cons (.one (CEq.refl _)) .nil)))) ?_
  rw [a2]
  repeat' first
    | (with_reducible first | refine NeedI.mk (fun h => h) ?_ | refine NeedI.mk (fun h => h.2) ?_ | refine NeedI.mk (fun h => h.1) ?_ | (show Done; exact Done.mk) | refine Both.mk (fun _ => ?_) (fun _ => ?_) | refine Both2.mk (fun _ => ?_) ?_ | (refine Need.mk ?_ ?_; (first | omega | with_reducible exact CEq.refl _ | (dsimp only; omega) | (dsimp only [rng]; omega) | (rw [Int.toNat_natCast]; omega))))
    | ((with_reducible refine Need.mk ?_ ?_); exact CEq.refl _)
    | ((with_reducible fail_if_success first | refine LoopVC.mk ?_ | refine Need.mk ?_ ?_ | refine CallVC.mk ?_ | refine LoopEnd.mk ?_ | refine Out.mk ?_ | show False | refine NeedI.mk ?_ ?_); conv => whnf)
  refine CallVC.mk' (fun _ => finish_ok K v2 0 false sv2) (fun _ => .cons ((.many fun j hj => by (rcases (show j = 0 ∨ j = 1 ∨ j = 2 ∨ j = 3 by omega) with rfl | rfl | rfl | rfl <;> exact CEq.refl _))) (.cons (.one (CEq.refl _)) (.cons (.one (CEq.refl _)) .nil))) ?_
  rw [a3]
  repeat' first
    | (with_reducible first | refine NeedI.mk (fun h => h) ?_ | refine NeedI.mk (fun h => h.2) ?_ | refine NeedI.mk (fun h => h.1) ?_ | (show Done; exact Done.mk) | refine Both.mk (fun _ => ?_) (fun _ => ?_) | refine Both2.mk (fun _ => ?_) ?_ | (refine Need.mk ?_ ?_; (first | omega | with_reducible exact CEq.refl _ | (dsimp only; omega) | (dsimp only [rng]; omega) | (rw [Int.toNat_natCast]; omega))))
    | ((with_reducible refine Need.mk ?_ ?_); exact CEq.refl _)
    | ((with_reducible fail_if_success first | refine LoopVC.mk ?_ | refine Need.mk ?_ ?_ | refine CallVC.mk ?_ | refine LoopEnd.mk ?_ | refine Out.mk ?_ | show False | refine NeedI.mk ?_ ?_); conv => whnf)
  refine CallVC.mk' (fun _ => finish_ok K v3 0 false sv3) (fun _ => .cons ((.many fun j hj => by (rcases (show j = 0 ∨ j = 1 ∨ j = 2 ∨ j = 3 by omega) with rfl | rfl | rfl | rfl <;> exact CEq.refl _))) (.cons (.one (CEq.refl _)) (.cons (.one (CEq.refl _)) .nil))) ?_
  rw [a4]
  repeat' first
    | (with_reducible first | refine NeedI.mk (fun h => h) ?_ | refine NeedI.mk (fun h => h.2) ?_ | refine NeedI.mk (fun h => h.1) ?_ | (show Done; exact Done.mk) | refine Both.mk (fun _ => ?_) (fun _ => ?_) | refine Both2.mk (fun _ => ?_) ?_ | (refine Need.mk ?_ ?_; (first | omega | with_reducible exact CEq.refl _ | (dsimp only; omega) | (dsimp only [rng]; omega) | (rw [Int.toNat_natCast]; omega))))
    | ((with_reducible refine Need.mk ?_ ?_); exact CEq.refl _)
    | ((with_reducible fail_if_success first | refine LoopVC.mk ?_ | refine Need.mk ?_ ?_ | refine CallVC.mk ?_ | refine LoopEnd.mk ?_ | refine Out.mk ?_ | show False | refine NeedI.mk ?_ ?_); conv => whnf)
end
theorem SmallV.wf {d : Dv} (S : SmallV d) (hn : rng .i64 d.next) : EDv.wf d :=
  ⟨⟨Nat.le_trans S.k.s (by decide), Nat.le_trans S.k.c (by decide), fun s hs => Nat.le_trans (S.k.ls s hs) (by decide), fun w hw => Nat.le_trans (S.k.lc w hw) (by decide)⟩, hn, Nat.le_trans S.f (by decide), fun r hr => Nat.le_trans (S.lf r hr) (by decide)⟩
theorem refOk_of {d : Dv} (h1 : tiny d.disk) (h2 : d.flight.length ≤ 20) (h3 : ∀ r ∈ d.flight, r.data.length ≤ 100) : refOk d :=
  ⟨⟨h1, h2⟩, fstN_eq (Nat.le_refl _) (fun j hj => decide_eq_false (by have := h3 _ (getD_mem hj); omega)) (fun x => by omega)⟩
theorem refOk.data {d : Dv} (h : refOk d) : ∀ r ∈ d.flight, r.data.length ≤ 100 := all_of_getD fun i hi => by
  have := fstN_ahead (p := refB d) (n := d.flight.length) (j := i) (by rw [h.2]; exact hi)
  have := of_decide_eq_false this; omega
theorem refOk.subm {d : Dv} {k p : Int} {s : List UInt8} (h : refOk d) (hs : s.length ≤ 100) : refOk (subm d k p s).1 := by
  unfold S04.subm
  split
  · exact h
  · split
    · exact h
    · rename_i h1 h2
      refine refOk_of h.1.1 (by simp; omega) fun r hr => ?_
      rcases List.mem_append.1 hr with hr | hr
      · exact h.data r hr
      · rw [List.mem_singleton.1 hr]; exact hs
theorem subm_next {d : Dv} {k p : Int} {s : List UInt8} (h : rng .i64 d.next) : rng .i64 (subm d k p s).1.next := by
  unfold subm
  split
  · exact h
  · split
    · exact h
    · rename_i h1 h2
      have hv : rightV d := Classical.byContradiction fun x => h1 (.inl x)
      have := hv.2.1
      show rng .i64 (d.next + 1)
      simp only [rng]; omega
section
variable {P : Program} {F : Nat → Nat}
set_option maxHeartbeats 8000000 in
set_option maxRecDepth 100000 in
theorem deviceSubmits_law (L : KLV P F) (hk : law04_DeviceSubmits_k P F) (d : Dv) (k p : Int) (s : List UInt8) (W : EDv.wf d) (hs : s.length ≤ 9223372036854775807) :
    FnOk P (F 156) [.many 4 (dvE d), .one (.int .i64 k), .one (.int .i64 p), .one (.str s)] [.one (.im (.bool true))] := by
  have K := L.k
  have R := L.r
  refine fnOk K.k.m hk ?_
  repeat' first
    | (with_reducible first | refine NeedI.mk (fun h => h) ?_ | refine NeedI.mk (fun h => h.2) ?_ | refine NeedI.mk (fun h => h.1) ?_ | (show Done; exact Done.mk) | refine Both.mk (fun _ => ?_) (fun _ => ?_) | refine Both2.mk (fun _ => ?_) ?_ | (refine Need.mk ?_ ?_; (first | omega | with_reducible exact CEq.refl _ | (dsimp only; omega) | (dsimp only [rng]; omega) | (rw [Int.toNat_natCast]; omega))))
    | ((with_reducible refine Need.mk ?_ ?_); exact CEq.refl _)
    | ((with_reducible fail_if_success first | refine LoopVC.mk ?_ | refine Need.mk ?_ ?_ | refine CallVC.mk ?_ | refine LoopEnd.mk ?_ | refine Out.mk ?_ | show False | refine NeedI.mk ?_ ?_); conv => whnf)
  refine CallVC.mk' (fun _ => ref_ok R d W) (fun _ => .cons ((.many fun j hj => by (rcases (show j = 0 ∨ j = 1 ∨ j = 2 ∨ j = 3 by omega) with rfl | rfl | rfl | rfl <;> exact CEq.refl _))) .nil) ?_
  repeat' first
    | (with_reducible first | refine NeedI.mk (fun h => h) ?_ | refine NeedI.mk (fun h => h.2) ?_ | refine NeedI.mk (fun h => h.1) ?_ | (show Done; exact Done.mk) | refine Both.mk (fun _ => ?_) (fun _ => ?_) | refine Both2.mk (fun _ => ?_) ?_ | (refine Need.mk ?_ ?_; (first | omega | with_reducible exact CEq.refl _ | (dsimp only; omega) | (dsimp only [rng]; omega) | (rw [Int.toNat_natCast]; omega))))
    | ((with_reducible refine Need.mk ?_ ?_); exact CEq.refl _)
    | ((with_reducible fail_if_success first | refine LoopVC.mk ?_ | refine Need.mk ?_ ?_ | refine CallVC.mk ?_ | refine LoopEnd.mk ?_ | refine Out.mk ?_ | show False | refine NeedI.mk ?_ ?_); conv => whnf)
  · refine CallVC.mk' (fun _ => awake_ok L) (fun _ => .nil) ?_
    repeat' first
      | (with_reducible first | refine NeedI.mk (fun h => h) ?_ | refine NeedI.mk (fun h => h.2) ?_ | refine NeedI.mk (fun h => h.1) ?_ | (show Done; exact Done.mk) | refine Both.mk (fun _ => ?_) (fun _ => ?_) | refine Both2.mk (fun _ => ?_) ?_ | (refine Need.mk ?_ ?_; (first | omega | with_reducible exact CEq.refl _ | (dsimp only; omega) | (dsimp only [rng]; omega) | (rw [Int.toNat_natCast]; omega))))
      | ((with_reducible refine Need.mk ?_ ?_); exact CEq.refl _)
      | ((with_reducible fail_if_success first | refine LoopVC.mk ?_ | refine Need.mk ?_ ?_ | refine CallVC.mk ?_ | refine LoopEnd.mk ?_ | refine Out.mk ?_ | show False | refine NeedI.mk ?_ ?_); conv => whnf)
  rename_i h
  simp only [Bool.or_eq_false_iff, Bool.not_eq_false', decide_eq_true_eq, decide_eq_false_iff_not] at h
  obtain ⟨h1, h2⟩ := h
  have S := h1.small
  rw [refV_ok h1]
  refine CallVC.mk' (fun _ => submit_ok K d k p s S hs) (fun _ => .cons ((.many fun j hj => by (rcases (show j = 0 ∨ j = 1 ∨ j = 2 ∨ j = 3 by omega) with rfl | rfl | rfl | rfl <;> exact CEq.refl _))) (.cons (.one (CEq.refl _)) (.cons (.one (CEq.refl _)) (.cons (.one (CEq.refl _)) .nil)))) ?_
  repeat' first
    | (with_reducible first | refine NeedI.mk (fun h => h) ?_ | refine NeedI.mk (fun h => h.2) ?_ | refine NeedI.mk (fun h => h.1) ?_ | (show Done; exact Done.mk) | refine Both.mk (fun _ => ?_) (fun _ => ?_) | refine Both2.mk (fun _ => ?_) ?_ | (refine Need.mk ?_ ?_; (first | omega | with_reducible exact CEq.refl _ | (dsimp only; omega) | (dsimp only [rng]; omega) | (rw [Int.toNat_natCast]; omega))))
    | ((with_reducible refine Need.mk ?_ ?_); exact CEq.refl _)
    | ((with_reducible fail_if_success first | refine LoopVC.mk ?_ | refine Need.mk ?_ ?_ | refine CallVC.mk ?_ | refine LoopEnd.mk ?_ | refine Out.mk ?_ | show False | refine NeedI.mk ?_ ?_); conv => whnf)
  refine CallVC.mk' (fun _ => rsubmit_ok R d k p s W S hs) (fun _ => .cons ((.many fun j hj => by (rcases (show j = 0 ∨ j = 1 ∨ j = 2 ∨ j = 3 by omega) with rfl | rfl | rfl | rfl <;> exact CEq.refl _))) (.cons (.one (CEq.refl _)) (.cons (.one (CEq.refl _)) (.cons (.one (CEq.refl _)) .nil)))) ?_
  have h3 : refOk (subm d k p s).1 := h1.subm (by omega)
  have W3 := h3.small.wf (subm_next W.2.1)
  repeat' first
    | (with_reducible first | refine NeedI.mk (fun h => h) ?_ | refine NeedI.mk (fun h => h.2) ?_ | refine NeedI.mk (fun h => h.1) ?_ | (show Done; exact Done.mk) | refine Both.mk (fun _ => ?_) (fun _ => ?_) | refine Both2.mk (fun _ => ?_) ?_ | (refine Need.mk ?_ ?_; (first | omega | with_reducible exact CEq.refl _ | (dsimp only; omega) | (dsimp only [rng]; omega) | (rw [Int.toNat_natCast]; omega))))
    | ((with_reducible refine Need.mk ?_ ?_); exact CEq.refl _)
    | ((with_reducible fail_if_success first | refine LoopVC.mk ?_ | refine Need.mk ?_ ?_ | refine CallVC.mk ?_ | refine LoopEnd.mk ?_ | refine Out.mk ?_ | show False | refine NeedI.mk ?_ ?_); conv => whnf)
  refine CallVC.mk' (fun _ => ref_ok R (subm d k p s).1 W3) (fun _ => .cons ((.many fun j hj => by (rcases (show j = 0 ∨ j = 1 ∨ j = 2 ∨ j = 3 by omega) with rfl | rfl | rfl | rfl <;> exact CEq.refl _))) .nil) ?_
  rw [refV_ok h3, decide_eq_true h3]
  repeat' first
    | (with_reducible first | refine NeedI.mk (fun h => h) ?_ | refine NeedI.mk (fun h => h.2) ?_ | refine NeedI.mk (fun h => h.1) ?_ | (show Done; exact Done.mk) | refine Both.mk (fun _ => ?_) (fun _ => ?_) | refine Both2.mk (fun _ => ?_) ?_ | (refine Need.mk ?_ ?_; (first | omega | with_reducible exact CEq.refl _ | (dsimp only; omega) | (dsimp only [rng]; omega) | (rw [Int.toNat_natCast]; omega))))
    | ((with_reducible refine Need.mk ?_ ?_); exact CEq.refl _)
    | ((with_reducible fail_if_success first | refine LoopVC.mk ?_ | refine Need.mk ?_ ?_ | refine CallVC.mk ?_ | refine LoopEnd.mk ?_ | refine Out.mk ?_ | show False | refine NeedI.mk ?_ ?_); conv => whnf)
  refine CallVC.mk' (fun _ => rsameV_ok R (subm d k p s).1 (subm d k p s).1 h3.small h3.small) (fun _ => .cons ((.many fun j hj => by (rcases (show j = 0 ∨ j = 1 ∨ j = 2 ∨ j = 3 by omega) with rfl | rfl | rfl | rfl <;> exact CEq.refl _))) (.cons ((.many fun j hj => by (rcases (show j = 0 ∨ j = 1 ∨ j = 2 ∨ j = 3 by omega) with rfl | rfl | rfl | rfl <;> exact CEq.refl _))) .nil)) ?_
  rw [decide_eq_true (rfl : (subm d k p s).1 = (subm d k p s).1)]
  repeat' first
    | (with_reducible first | refine NeedI.mk (fun h => h) ?_ | refine NeedI.mk (fun h => h.2) ?_ | refine NeedI.mk (fun h => h.1) ?_ | (show Done; exact Done.mk) | refine Both.mk (fun _ => ?_) (fun _ => ?_) | refine Both2.mk (fun _ => ?_) ?_ | (refine Need.mk ?_ ?_; (first | omega | with_reducible exact CEq.refl _ | (dsimp only; omega) | (dsimp only [rng]; omega) | (rw [Int.toNat_natCast]; omega))))
    | ((with_reducible refine Need.mk ?_ ?_); exact CEq.refl _)
    | ((with_reducible fail_if_success first | refine LoopVC.mk ?_ | refine Need.mk ?_ ?_ | refine CallVC.mk ?_ | refine LoopEnd.mk ?_ | refine Out.mk ?_ | show False | refine NeedI.mk ?_ ?_); conv => whnf)
  refine CallVC.mk' (fun _ => right_ok K d S) (fun _ => .cons ((.many fun j hj => by (rcases (show j = 0 ∨ j = 1 ∨ j = 2 ∨ j = 3 by omega) with rfl | rfl | rfl | rfl <;> exact CEq.refl _))) .nil) ?_
  repeat' first
    | (with_reducible first | refine NeedI.mk (fun h => h) ?_ | refine NeedI.mk (fun h => h.2) ?_ | refine NeedI.mk (fun h => h.1) ?_ | (show Done; exact Done.mk) | refine Both.mk (fun _ => ?_) (fun _ => ?_) | refine Both2.mk (fun _ => ?_) ?_ | (refine Need.mk ?_ ?_; (first | omega | with_reducible exact CEq.refl _ | (dsimp only; omega) | (dsimp only [rng]; omega) | (rw [Int.toNat_natCast]; omega))))
    | ((with_reducible refine Need.mk ?_ ?_); exact CEq.refl _)
    | ((with_reducible fail_if_success first | refine LoopVC.mk ?_ | refine Need.mk ?_ ?_ | refine CallVC.mk ?_ | refine LoopEnd.mk ?_ | refine Out.mk ?_ | show False | refine NeedI.mk ?_ ?_); conv => whnf)
  refine CallVC.mk' (fun _ => rrightV_ok R d W) (fun _ => .cons ((.many fun j hj => by (rcases (show j = 0 ∨ j = 1 ∨ j = 2 ∨ j = 3 by omega) with rfl | rfl | rfl | rfl <;> exact CEq.refl _))) .nil) ?_
  repeat' first
    | (with_reducible first | refine NeedI.mk (fun h => h) ?_ | refine NeedI.mk (fun h => h.2) ?_ | refine NeedI.mk (fun h => h.1) ?_ | (show Done; exact Done.mk) | refine Both.mk (fun _ => ?_) (fun _ => ?_) | refine Both2.mk (fun _ => ?_) ?_ | (refine Need.mk ?_ ?_; (first | omega | with_reducible exact CEq.refl _ | (dsimp only; omega) | (dsimp only [rng]; omega) | (rw [Int.toNat_natCast]; omega))))
    | ((with_reducible refine Need.mk ?_ ?_); exact CEq.refl _)
    | ((with_reducible fail_if_success first | refine LoopVC.mk ?_ | refine Need.mk ?_ ?_ | refine CallVC.mk ?_ | refine LoopEnd.mk ?_ | refine Out.mk ?_ | show False | refine NeedI.mk ?_ ?_); conv => whnf)
  refine CallVC.mk' (fun _ => awake_ok L) (fun _ => .nil) ?_
  repeat' first
    | (with_reducible first | refine NeedI.mk (fun h => h) ?_ | refine NeedI.mk (fun h => h.2) ?_ | refine NeedI.mk (fun h => h.1) ?_ | (show Done; exact Done.mk) | refine Both.mk (fun _ => ?_) (fun _ => ?_) | refine Both2.mk (fun _ => ?_) ?_ | (refine Need.mk ?_ ?_; (first | omega | with_reducible exact CEq.refl _ | (dsimp only; omega) | (dsimp only [rng]; omega) | (rw [Int.toNat_natCast]; omega))))
    | ((with_reducible refine Need.mk ?_ ?_); exact CEq.refl _)
    | ((with_reducible fail_if_success first | refine LoopVC.mk ?_ | refine Need.mk ?_ ?_ | refine CallVC.mk ?_ | refine LoopEnd.mk ?_ | refine Out.mk ?_ | show False | refine NeedI.mk ?_ ?_); conv => whnf)
  refine Need.mk (eB (by simp)) ?_
  repeat' first
    | (with_reducible first | refine NeedI.mk (fun h => h) ?_ | refine NeedI.mk (fun h => h.2) ?_ | refine NeedI.mk (fun h => h.1) ?_ | (show Done; exact Done.mk) | refine Both.mk (fun _ => ?_) (fun _ => ?_) | refine Both2.mk (fun _ => ?_) ?_ | (refine Need.mk ?_ ?_; (first | omega | with_reducible exact CEq.refl _ | (dsimp only; omega) | (dsimp only [rng]; omega) | (rw [Int.toNat_natCast]; omega))))
    | ((with_reducible refine Need.mk ?_ ?_); exact CEq.refl _)
    | ((with_reducible fail_if_success first | refine LoopVC.mk ?_ | refine Need.mk ?_ ?_ | refine CallVC.mk ?_ | refine LoopEnd.mk ?_ | refine Out.mk ?_ | show False | refine NeedI.mk ?_ ?_); conv => whnf)
end
end Lk.S04
namespace Lk.S04
open Go Lk Lk.C Lk.S03
theorem right.tiny {d : Dsk} (h : right d) : tiny d := ⟨by have := h.2.1; omega, by have := h.2.2.1; omega, fun s hs => by have := h.2.2.2.1 s hs; omega, fun w hw => by have := (h.2.2.2.2 w hw).2.2; omega⟩
theorem mem_without {l : List Rq} {i : Nat} {r : Rq} (h : r ∈ without l i) : r ∈ l := by
  unfold without at h
  rcases List.mem_append.1 h with h | h
  · exact List.mem_of_mem_take h
  · exact List.mem_of_mem_drop h
theorem without_len {l : List Rq} {i : Nat} (hi : i < l.length) : (without l i).length = l.length - 1 := by unfold without; simp; omega
theorem right_putR {d : Dsk} {r : Rq} (h : right d) : right (putR d r).1 := by
  unfold putR
  split
  · exact h
  · split
    · exact h.put
    · exact h.put.put
theorem putR_len {d : Dsk} {r : Rq} : (putR d r).1.secs.length = d.secs.length := by
  have hp : ∀ (d : Dsk) (w : Wr), (d.put w).secs.length = d.secs.length := fun d w => by unfold Dsk.put; split <;> rfl
  unfold putR
  split
  · rfl
  · split
    · exact hp _ _
    · exact (hp _ _).trans (hp _ _)
/-- What stays right behind a request that is finished. -/
theorem fin_yes {d : Dv} {i : Int} {fault : Bool} (h : ¬ finNo d i) : ∃ a : Nat, i = a ∧ a < d.flight.length ∧ rightV d ∧ (finD d i fault).1.next = d.next ∧ (finD d i fault).1.flight = without d.flight a ∧ right (finD d i fault).1.disk ∧ (finD d i fault).1.disk.secs.length = d.disk.secs.length := by
  have hv : rightV d := Classical.byContradiction fun x => h (.inl x)
  have ha0 : 0 ≤ i := by have : ¬ i < 0 := fun x => h (.inr (.inl x)); omega
  obtain ⟨a, rfl⟩ : ∃ a : Nat, i = a := ⟨i.toNat, by omega⟩
  have ha : a < d.flight.length := by have : ¬ (d.flight.length : Int) ≤ a := fun x => h (.inr (.inr x)); omega
  refine ⟨a, rfl, ha, hv, ?_⟩
  unfold finD
  rw [if_neg h, Int.toNat_natCast]
  split
  · exact ⟨rfl, rfl, hv.1.1, rfl⟩
  · unfold fin1
    split
    · exact ⟨rfl, rfl, hv.1.1, rfl⟩
    · split
      · exact ⟨rfl, rfl, right_putR hv.1.1, putR_len⟩
      · exact ⟨rfl, rfl, hv.1.1.sync, by show d.disk.sync.secs.length = _; unfold Dsk.sync; rw [if_pos hv.1.1]; exact wrS_len⟩
theorem okF_without {n : Int} {l : List Rq} {a : Nat} (h : ∀ i, i < l.length → okAt n l i) (ha : a < l.length) : ∀ i, i < (without l a).length → okAt n (without l a) i := by
  have hp := fun {i : Nat} (hi : i ≤ l.length) => ok_pos (i := i) (fun k hk => h k (by omega))
  have hl : (l.take a).length = a := by rw [List.length_take]; omega
  have g1 : ∀ i, i < a → (without l a).getD i default = l.getD i default := fun i hi => by
    unfold without
    rw [List.getD_eq_getElem?_getD, List.getElem?_append_left (by omega), List.getElem?_take_of_lt hi, ← List.getD_eq_getElem?_getD]
  have g2 : ∀ i, a ≤ i → (without l a).getD i default = l.getD (i + 1) default := fun i hi => by
    unfold without
    rw [List.getD_eq_getElem?_getD, List.getElem?_append_right (by omega), hl, List.getElem?_drop, ← List.getD_eq_getElem?_getD]
    congr 1; omega
  intro i hi
  rw [without_len ha] at hi
  unfold okAt ahead
  by_cases h1 : i < a
  · rw [g1 i h1]
    by_cases h0 : i = 0
    · subst h0
      exact h 0 (by omega)
    · rw [if_neg h0, g1 (i - 1) (by omega)]
      have := h i (by omega)
      unfold okAt ahead at this
      rw [if_neg h0] at this
      exact this
  · rw [g2 i (by omega)]
    have h3 := h (i + 1) (by omega)
    unfold okAt ahead at h3
    rw [if_neg (by omega), Nat.add_sub_cancel] at h3
    refine ⟨?_, h3.2⟩
    by_cases h0 : i = 0
    · rw [if_pos h0]
      have := hp (Nat.le_refl _) (i + 1) (by omega); omega
    · rw [if_neg h0]
      by_cases h2 : a ≤ i - 1
      · rw [g2 (i - 1) h2, show i - 1 + 1 = i by omega]; exact h3.1
      · rw [g1 (i - 1) (by omega)]
        have h4 := (h i (by omega)).1
        unfold ahead at h4
        rw [if_neg h0] at h4
        have := h3.1; omega
theorem fin_right {d : Dv} {i : Int} {fault : Bool} (h : ¬ finNo d i) : rightV (finD d i fault).1 := by
  obtain ⟨a, rfl, ha, hv, e1, e2, e3, e4⟩ := fin_yes (fault := fault) h
  refine ⟨⟨e3, by rw [e4]; exact hv.1.2⟩, ⟨by rw [e1]; exact hv.2.1.1, by rw [e1]; exact hv.2.1.2.1, by rw [e2, without_len ha]; have := hv.2.1.2.2; omega⟩, ?_⟩
  rw [e1, e2]
  exact okF_without hv.2.2 ha
theorem refOk.fin {d : Dv} {i : Int} {fault : Bool} (h : refOk d) : refOk (finD d i fault).1 := by
  by_cases hn : finNo d i
  · rw [show finD d i fault = (d, ⟨0, 0, 0, []⟩, 1) from if_pos hn]; exact h
  · obtain ⟨a, rfl, ha, hv, e1, e2, e3, e4⟩ := fin_yes (fault := fault) hn
    exact refOk_of (right.tiny e3) (by rw [e2, without_len ha]; have := h.1.2; omega) fun r hr => h.data r (mem_without (by rw [← e2]; exact hr))
theorem fin_next {d : Dv} {i : Int} {fault : Bool} : (finD d i fault).1.next = d.next := by
  by_cases hn : finNo d i
  · rw [show finD d i fault = (d, ⟨0, 0, 0, []⟩, 1) from if_pos hn]
  · obtain ⟨a, rfl, ha, hv, e1, e2, e3, e4⟩ := fin_yes (fault := fault) hn
    exact e1
theorem refOk.crash {d : Dv} {keep : List Int} (h : refOk d) : refOk (crashV d keep) := by
  unfold crashV
  split
  · rename_i hv
    exact refOk_of (right.tiny hv.1.1.crash) (by simp) (fun r hr => by cases hr)
  · exact h
theorem crash_next {d : Dv} {keep : List Int} : (crashV d keep).next = d.next := by unfold crashV; split <;> rfl
theorem refV_wf {d : Dv} (W : EDv.wf d) : EDv.wf (refV d) :=
  ⟨W.1, W.2.1, by show (d.flight.take _).length ≤ _; rw [List.length_take]; have := W.2.2.1; omega, fun r hr => W.2.2.2 r (List.mem_of_mem_take hr)⟩
theorem read_16 {d : Dsk} {i : Nat} (h : right d) (hi : i < d.secs.length) : (d.read i).length = 16 := by
  unfold Dsk.read
  rcases rdL_mem (l := d.cache) (at_ := (i : Int)) (s := d.secs.getD i []) with e | ⟨w, hw, -, e⟩
  · rw [e]; exact h.2.2.2.1 _ (getD_mem (α := List UInt8) hi)
  · rw [e]; exact (h.2.2.2.2 w hw).2.2
theorem two_len {d : Dsk} {p : Int} (h : right d) (h35 : 35 ≤ d.secs.length) (h1 : 1 ≤ p) (h2 : p ≤ 16) : (two d p).length = 32 := by
  obtain ⟨q, rfl⟩ : ∃ q : Nat, p = q := ⟨p.toNat, by omega⟩
  unfold two hm
  rw [show 2 * (q : Int) + 1 = ((2 * q + 1 : Nat) : Int) by omega, show ((2 * q + 1 : Nat) : Int) + 1 = ((2 * q + 2 : Nat) : Int) by omega, rd_in h (by omega), rd_in h (by omega), List.length_append, read_16 h (by omega), read_16 h (by omega)]
/-- What a request that is finished without a fault is told as. -/
theorem fin_told {d : Dv} {a : Nat} (h : ¬ finNo d a) : (finD d a false).2.1.ticket = (d.flight.getD a default).ticket ∧ (finD d a false).2.1.page = (d.flight.getD a default).page ∧ (finD d a false).2.1.kind = (d.flight.getD a default).kind ∧
    ((d.flight.getD a default).kind = 1 → (finD d a false).1.disk = d.disk ∧ (finD d a false).2.2 = 0 ∧ (finD d a false).2.1.data = two d.disk (d.flight.getD a default).page) ∧
    ((d.flight.getD a default).kind ≠ 1 → (finD d a false).2.1.data = (d.flight.getD a default).data) ∧
    ((d.flight.getD a default).kind = 2 → (finD d a false).1.disk = (putR d.disk (d.flight.getD a default)).1 ∧ (finD d a false).2.2 = (putR d.disk (d.flight.getD a default)).2) ∧
    ((d.flight.getD a default).kind = 3 → (finD d a false).1.disk = d.disk.sync ∧ (finD d a false).2.2 = 0) := by
  unfold finD
  rw [if_neg h, Int.toNat_natCast]
  unfold fin1
  generalize d.flight.getD a default = r
  by_cases h1 : r.kind = 1
  · simp [h1]
  · by_cases h2 : r.kind = 2
    · simp [h2]
    · simp [h1, h2]
theorem fin_fault {d : Dv} {a : Nat} (h : ¬ finNo d a) : finD d a true = (⟨d.disk, d.next, without d.flight a⟩, d.flight.getD a default, 8) := by
  unfold finD
  rw [if_neg h, Int.toNat_natCast]
  rfl
theorem rightV.small {d : Dv} (h : rightV d) : SmallV d :=
  ⟨S03.right.small h.1.1, by have := h.2.1.2.2; omega, all_of_getD fun i hi => by
    rcases (h.2.2 i hi).2.2 with x | x | x <;> omega⟩
theorem rightV.rng {d : Dv} (h : rightV d) : rng .i64 d.next := by have := h.2.1; simp only [Lk.rng]; omega
theorem fin_err {d : Dv} {i : Int} {fault : Bool} (h : ¬ finNo d i) : (finD d i fault).2.2 ≠ 1 := by
  unfold finD
  rw [if_neg h]
  split
  · simp
  · unfold fin1
    split
    · simp
    · split
      · show (putR d.disk _).2 ≠ 1
        unfold putR
        split
        · simp
        · split <;> simp
      · simp
theorem fin_ticket {d : Dv} {a : Nat} {fault : Bool} (h : ¬ finNo d a) : (finD d a fault).2.1.ticket = (d.flight.getD a default).ticket := by
  cases fault with
  | true => rw [fin_fault h]
  | false => exact (fin_told h).1
section
variable {P : Program} {F : Nat → Nat}
set_option maxHeartbeats 8000000 in
set_option maxRecDepth 100000 in
theorem deviceFinishes_law (L : KLV P F) (hk : law04_DeviceFinishes_k P F) (d : Dv) (i : Int) (fault : Bool) (keep : List Int) (W : EDv.wf d) (hkl : keep.length ≤ 9223372036854775807) :
    FnOk P (F 160) [.many 4 (dvE d), .one (.int .i64 i), .one (.bool fault), .one (slL 1 intE keep)] [.one (.im (.bool true))] := by
  have K := L.k
  have R := L.r
  refine fnOk K.k.m hk ?_
  repeat' first
    | (with_reducible first | refine NeedI.mk (fun h => h) ?_ | refine NeedI.mk (fun h => h.2) ?_ | refine NeedI.mk (fun h => h.1) ?_ | (show Done; exact Done.mk) | refine Both.mk (fun _ => ?_) (fun _ => ?_) | refine Both2.mk (fun _ => ?_) ?_ | (refine Need.mk ?_ ?_; (first | omega | with_reducible exact CEq.refl _ | (dsimp only; omega) | (dsimp only [rng]; omega) | (rw [Int.toNat_natCast]; omega))))
    | ((with_reducible refine Need.mk ?_ ?_); exact CEq.refl _)
    | ((with_reducible fail_if_success first | refine LoopVC.mk ?_ | refine Need.mk ?_ ?_ | refine CallVC.mk ?_ | refine LoopEnd.mk ?_ | refine Out.mk ?_ | show False | refine NeedI.mk ?_ ?_); conv => whnf)
  refine CallVC.mk' (fun _ => ref_ok R d W) (fun _ => .cons ((.many fun j hj => by (rcases (show j = 0 ∨ j = 1 ∨ j = 2 ∨ j = 3 by omega) with rfl | rfl | rfl | rfl <;> exact CEq.refl _))) .nil) ?_
  repeat' first
    | (with_reducible first | refine NeedI.mk (fun h => h) ?_ | refine NeedI.mk (fun h => h.2) ?_ | refine NeedI.mk (fun h => h.1) ?_ | (show Done; exact Done.mk) | refine Both.mk (fun _ => ?_) (fun _ => ?_) | refine Both2.mk (fun _ => ?_) ?_ | (refine Need.mk ?_ ?_; (first | omega | with_reducible exact CEq.refl _ | (dsimp only; omega) | (dsimp only [rng]; omega) | (rw [Int.toNat_natCast]; omega))))
    | ((with_reducible refine Need.mk ?_ ?_); exact CEq.refl _)
    | ((with_reducible fail_if_success first | refine LoopVC.mk ?_ | refine Need.mk ?_ ?_ | refine CallVC.mk ?_ | refine LoopEnd.mk ?_ | refine Out.mk ?_ | show False | refine NeedI.mk ?_ ?_); conv => whnf)
  · refine CallVC.mk' (fun _ => awake_ok L) (fun _ => .nil) ?_
    repeat' first
      | (with_reducible first | refine NeedI.mk (fun h => h) ?_ | refine NeedI.mk (fun h => h.2) ?_ | refine NeedI.mk (fun h => h.1) ?_ | (show Done; exact Done.mk) | refine Both.mk (fun _ => ?_) (fun _ => ?_) | refine Both2.mk (fun _ => ?_) ?_ | (refine Need.mk ?_ ?_; (first | omega | with_reducible exact CEq.refl _ | (dsimp only; omega) | (dsimp only [rng]; omega) | (rw [Int.toNat_natCast]; omega))))
      | ((with_reducible refine Need.mk ?_ ?_); exact CEq.refl _)
      | ((with_reducible fail_if_success first | refine LoopVC.mk ?_ | refine Need.mk ?_ ?_ | refine CallVC.mk ?_ | refine LoopEnd.mk ?_ | refine Out.mk ?_ | show False | refine NeedI.mk ?_ ?_); conv => whnf)
  rename_i h
  simp only [Bool.or_eq_false_iff, Bool.not_eq_false', decide_eq_true_eq, decide_eq_false_iff_not] at h
  obtain ⟨h1, h2⟩ := h
  have S := h1.small
  rw [refV_ok h1]
  refine CallVC.mk' (fun _ => finish_ok K d i fault S) (fun _ => .cons ((.many fun j hj => by (rcases (show j = 0 ∨ j = 1 ∨ j = 2 ∨ j = 3 by omega) with rfl | rfl | rfl | rfl <;> exact CEq.refl _))) (.cons (.one (CEq.refl _)) (.cons (.one (CEq.refl _)) .nil))) ?_
  repeat' first
    | (with_reducible first | refine NeedI.mk (fun h => h) ?_ | refine NeedI.mk (fun h => h.2) ?_ | refine NeedI.mk (fun h => h.1) ?_ | (show Done; exact Done.mk) | refine Both.mk (fun _ => ?_) (fun _ => ?_) | refine Both2.mk (fun _ => ?_) ?_ | (refine Need.mk ?_ ?_; (first | omega | with_reducible exact CEq.refl _ | (dsimp only; omega) | (dsimp only [rng]; omega) | (rw [Int.toNat_natCast]; omega))))
    | ((with_reducible refine Need.mk ?_ ?_); exact CEq.refl _)
    | ((with_reducible fail_if_success first | refine LoopVC.mk ?_ | refine Need.mk ?_ ?_ | refine CallVC.mk ?_ | refine LoopEnd.mk ?_ | refine Out.mk ?_ | show False | refine NeedI.mk ?_ ?_); conv => whnf)
  refine CallVC.mk' (fun _ => rfinish_ok R d i fault W S) (fun _ => .cons ((.many fun j hj => by (rcases (show j = 0 ∨ j = 1 ∨ j = 2 ∨ j = 3 by omega) with rfl | rfl | rfl | rfl <;> exact CEq.refl _))) (.cons (.one (CEq.refl _)) (.cons (.one (CEq.refl _)) .nil))) ?_
  have h3 : refOk (finD d i fault).1 := h1.fin
  have W3 := h3.small.wf (by rw [fin_next]; exact W.2.1)
  repeat' first
    | (with_reducible first | refine NeedI.mk (fun h => h) ?_ | refine NeedI.mk (fun h => h.2) ?_ | refine NeedI.mk (fun h => h.1) ?_ | (show Done; exact Done.mk) | refine Both.mk (fun _ => ?_) (fun _ => ?_) | refine Both2.mk (fun _ => ?_) ?_ | (refine Need.mk ?_ ?_; (first | omega | with_reducible exact CEq.refl _ | (dsimp only; omega) | (dsimp only [rng]; omega) | (rw [Int.toNat_natCast]; omega))))
    | ((with_reducible refine Need.mk ?_ ?_); exact CEq.refl _)
    | ((with_reducible fail_if_success first | refine LoopVC.mk ?_ | refine Need.mk ?_ ?_ | refine CallVC.mk ?_ | refine LoopEnd.mk ?_ | refine Out.mk ?_ | show False | refine NeedI.mk ?_ ?_); conv => whnf)
  refine CallVC.mk' (fun _ => ref_ok R (finD d i fault).1 W3) (fun _ => .cons ((.many fun j hj => by (rcases (show j = 0 ∨ j = 1 ∨ j = 2 ∨ j = 3 by omega) with rfl | rfl | rfl | rfl <;> exact CEq.refl _))) .nil) ?_
  rw [refV_ok h3, decide_eq_true h3]
  repeat' first
    | (with_reducible first | refine NeedI.mk (fun h => h) ?_ | refine NeedI.mk (fun h => h.2) ?_ | refine NeedI.mk (fun h => h.1) ?_ | (show Done; exact Done.mk) | refine Both.mk (fun _ => ?_) (fun _ => ?_) | refine Both2.mk (fun _ => ?_) ?_ | (refine Need.mk ?_ ?_; (first | omega | with_reducible exact CEq.refl _ | (dsimp only; omega) | (dsimp only [rng]; omega) | (rw [Int.toNat_natCast]; omega))))
    | ((with_reducible refine Need.mk ?_ ?_); exact CEq.refl _)
    | ((with_reducible fail_if_success first | refine LoopVC.mk ?_ | refine Need.mk ?_ ?_ | refine CallVC.mk ?_ | refine LoopEnd.mk ?_ | refine Out.mk ?_ | show False | refine NeedI.mk ?_ ?_); conv => whnf)
  refine CallVC.mk' (fun _ => rsameV_ok R (finD d i fault).1 (finD d i fault).1 h3.small h3.small) (fun _ => .cons ((.many fun j hj => by (rcases (show j = 0 ∨ j = 1 ∨ j = 2 ∨ j = 3 by omega) with rfl | rfl | rfl | rfl <;> exact CEq.refl _))) (.cons ((.many fun j hj => by (rcases (show j = 0 ∨ j = 1 ∨ j = 2 ∨ j = 3 by omega) with rfl | rfl | rfl | rfl <;> exact CEq.refl _))) .nil)) ?_
  rw [decide_eq_true (rfl : (finD d i fault).1 = (finD d i fault).1)]
  repeat' first
    | (with_reducible first | refine NeedI.mk (fun h => h) ?_ | refine NeedI.mk (fun h => h.2) ?_ | refine NeedI.mk (fun h => h.1) ?_ | (show Done; exact Done.mk) | refine Both.mk (fun _ => ?_) (fun _ => ?_) | refine Both2.mk (fun _ => ?_) ?_ | (refine Need.mk ?_ ?_; (first | omega | with_reducible exact CEq.refl _ | (dsimp only; omega) | (dsimp only [rng]; omega) | (rw [Int.toNat_natCast]; omega))))
    | ((with_reducible refine Need.mk ?_ ?_); exact CEq.refl _)
    | ((with_reducible fail_if_success first | refine LoopVC.mk ?_ | refine Need.mk ?_ ?_ | refine CallVC.mk ?_ | refine LoopEnd.mk ?_ | refine Out.mk ?_ | show False | refine NeedI.mk ?_ ?_); conv => whnf)
  · rename_i h
    exfalso
    simp at h
  refine CallVC.mk' (fun _ => crashV_ok K d keep S (by omega)) (fun _ => .cons ((.many fun j hj => by (rcases (show j = 0 ∨ j = 1 ∨ j = 2 ∨ j = 3 by omega) with rfl | rfl | rfl | rfl <;> exact CEq.refl _))) (.cons (.one (CEq.refl _)) .nil)) ?_
  have h4 : refOk (crashV d keep) := h1.crash
  have W4 := h4.small.wf (by rw [crash_next]; exact W.2.1)
  repeat' first
    | (with_reducible first | refine NeedI.mk (fun h => h) ?_ | refine NeedI.mk (fun h => h.2) ?_ | refine NeedI.mk (fun h => h.1) ?_ | (show Done; exact Done.mk) | refine Both.mk (fun _ => ?_) (fun _ => ?_) | refine Both2.mk (fun _ => ?_) ?_ | (refine Need.mk ?_ ?_; (first | omega | with_reducible exact CEq.refl _ | (dsimp only; omega) | (dsimp only [rng]; omega) | (rw [Int.toNat_natCast]; omega))))
    | ((with_reducible refine Need.mk ?_ ?_); exact CEq.refl _)
    | ((with_reducible fail_if_success first | refine LoopVC.mk ?_ | refine Need.mk ?_ ?_ | refine CallVC.mk ?_ | refine LoopEnd.mk ?_ | refine Out.mk ?_ | show False | refine NeedI.mk ?_ ?_); conv => whnf)
  refine CallVC.mk' (fun _ => ref_ok R (crashV d keep) W4) (fun _ => .cons ((.many fun j hj => by (rcases (show j = 0 ∨ j = 1 ∨ j = 2 ∨ j = 3 by omega) with rfl | rfl | rfl | rfl <;> exact CEq.refl _))) .nil) ?_
  rw [refV_ok h4, decide_eq_true h4]
  repeat' first
    | (with_reducible first | refine NeedI.mk (fun h => h) ?_ | refine NeedI.mk (fun h => h.2) ?_ | refine NeedI.mk (fun h => h.1) ?_ | (show Done; exact Done.mk) | refine Both.mk (fun _ => ?_) (fun _ => ?_) | refine Both2.mk (fun _ => ?_) ?_ | (refine Need.mk ?_ ?_; (first | omega | with_reducible exact CEq.refl _ | (dsimp only; omega) | (dsimp only [rng]; omega) | (rw [Int.toNat_natCast]; omega))))
    | ((with_reducible refine Need.mk ?_ ?_); exact CEq.refl _)
    | ((with_reducible fail_if_success first | refine LoopVC.mk ?_ | refine Need.mk ?_ ?_ | refine CallVC.mk ?_ | refine LoopEnd.mk ?_ | refine Out.mk ?_ | show False | refine NeedI.mk ?_ ?_); conv => whnf)
  refine CallVC.mk' (fun _ => rrightV_ok R d W) (fun _ => .cons ((.many fun j hj => by (rcases (show j = 0 ∨ j = 1 ∨ j = 2 ∨ j = 3 by omega) with rfl | rfl | rfl | rfl <;> exact CEq.refl _))) .nil) ?_
  repeat' first
    | (with_reducible first | refine NeedI.mk (fun h => h) ?_ | refine NeedI.mk (fun h => h.2) ?_ | refine NeedI.mk (fun h => h.1) ?_ | (show Done; exact Done.mk) | refine Both.mk (fun _ => ?_) (fun _ => ?_) | refine Both2.mk (fun _ => ?_) ?_ | (refine Need.mk ?_ ?_; (first | omega | with_reducible exact CEq.refl _ | (dsimp only; omega) | (dsimp only [rng]; omega) | (rw [Int.toNat_natCast]; omega))))
    | ((with_reducible refine Need.mk ?_ ?_); exact CEq.refl _)
    | ((with_reducible fail_if_success first | refine LoopVC.mk ?_ | refine Need.mk ?_ ?_ | refine CallVC.mk ?_ | refine LoopEnd.mk ?_ | refine Out.mk ?_ | show False | refine NeedI.mk ?_ ?_); conv => whnf)
  · rename_i g1 g2
    have g2 := of_decide_eq_true g2
    refine CallVC.mk' (fun _ => rcrash_ok R.rc d.disk keep S.k (by omega)) (fun _ => .cons ((.many fun j hj => by (rcases (show j = 0 ∨ j = 1 by omega) with rfl | rfl <;> exact CEq.refl _))) (.cons (.one (CEq.refl _)) .nil)) ?_
    have e : crashV d keep = ⟨refCrash d.disk keep, d.next, []⟩ := by unfold crashV; rw [if_pos g2, crash_ref g2.1.1]
    rw [e] at h4 ⊢
    repeat' first
      | (with_reducible first | refine NeedI.mk (fun h => h) ?_ | refine NeedI.mk (fun h => h.2) ?_ | refine NeedI.mk (fun h => h.1) ?_ | (show Done; exact Done.mk) | refine Both.mk (fun _ => ?_) (fun _ => ?_) | refine Both2.mk (fun _ => ?_) ?_ | (refine Need.mk ?_ ?_; (first | omega | with_reducible exact CEq.refl _ | (dsimp only; omega) | (dsimp only [rng]; omega) | (rw [Int.toNat_natCast]; omega))))
      | ((with_reducible refine Need.mk ?_ ?_); exact CEq.refl _)
      | ((with_reducible fail_if_success first | refine LoopVC.mk ?_ | refine Need.mk ?_ ?_ | refine CallVC.mk ?_ | refine LoopEnd.mk ?_ | refine Out.mk ?_ | show False | refine NeedI.mk ?_ ?_); conv => whnf)
    refine CallVC.mk' (fun _ => rsameV_ok R ⟨refCrash d.disk keep, d.next, []⟩ ⟨refCrash d.disk keep, d.next, []⟩ h4.small h4.small) (fun _ => .cons ((.many fun j hj => by (rcases (show j = 0 ∨ j = 1 ∨ j = 2 ∨ j = 3 by omega) with rfl | rfl | rfl | rfl <;> exact CEq.refl _))) (.cons (.many fun j hj => by (rcases (show j = 0 ∨ j = 1 ∨ j = 2 ∨ j = 3 by omega) with rfl | rfl | rfl | rfl <;> first | exact CEq.refl _ | exact ceq_nil)) .nil)) ?_
    rw [decide_eq_true (rfl : (⟨refCrash d.disk keep, d.next, []⟩ : Dv) = ⟨refCrash d.disk keep, d.next, []⟩)]
    repeat' first
      | (with_reducible first | refine NeedI.mk (fun h => h) ?_ | refine NeedI.mk (fun h => h.2) ?_ | refine NeedI.mk (fun h => h.1) ?_ | (show Done; exact Done.mk) | refine Both.mk (fun _ => ?_) (fun _ => ?_) | refine Both2.mk (fun _ => ?_) ?_ | (refine Need.mk ?_ ?_; (first | omega | with_reducible exact CEq.refl _ | (dsimp only; omega) | (dsimp only [rng]; omega) | (rw [Int.toNat_natCast]; omega))))
      | ((with_reducible refine Need.mk ?_ ?_); exact CEq.refl _)
      | ((with_reducible fail_if_success first | refine LoopVC.mk ?_ | refine Need.mk ?_ ?_ | refine CallVC.mk ?_ | refine LoopEnd.mk ?_ | refine Out.mk ?_ | show False | refine NeedI.mk ?_ ?_); conv => whnf)
    refine CallVC.mk' (fun _ => awake_ok L) (fun _ => .nil) ?_
    repeat' first
      | (with_reducible first | refine NeedI.mk (fun h => h) ?_ | refine NeedI.mk (fun h => h.2) ?_ | refine NeedI.mk (fun h => h.1) ?_ | (show Done; exact Done.mk) | refine Both.mk (fun _ => ?_) (fun _ => ?_) | refine Both2.mk (fun _ => ?_) ?_ | (refine Need.mk ?_ ?_; (first | omega | with_reducible exact CEq.refl _ | (dsimp only; omega) | (dsimp only [rng]; omega) | (rw [Int.toNat_natCast]; omega))))
      | ((with_reducible refine Need.mk ?_ ?_); exact CEq.refl _)
      | ((with_reducible fail_if_success first | refine LoopVC.mk ?_ | refine Need.mk ?_ ?_ | refine CallVC.mk ?_ | refine LoopEnd.mk ?_ | refine Out.mk ?_ | show False | refine NeedI.mk ?_ ?_); conv => whnf)
  · rename_i g1 g2
    have g2 := of_decide_eq_false g2
    have e : crashV d keep = d := if_neg g2
    rw [e]
    refine CallVC.mk' (fun _ => rsameV_ok R d d S S) (fun _ => .cons ((.many fun j hj => by (rcases (show j = 0 ∨ j = 1 ∨ j = 2 ∨ j = 3 by omega) with rfl | rfl | rfl | rfl <;> exact CEq.refl _))) (.cons ((.many fun j hj => by (rcases (show j = 0 ∨ j = 1 ∨ j = 2 ∨ j = 3 by omega) with rfl | rfl | rfl | rfl <;> exact CEq.refl _))) .nil)) ?_
    rw [decide_eq_true (rfl : d = d)]
    repeat' first
      | (with_reducible first | refine NeedI.mk (fun h => h) ?_ | refine NeedI.mk (fun h => h.2) ?_ | refine NeedI.mk (fun h => h.1) ?_ | (show Done; exact Done.mk) | refine Both.mk (fun _ => ?_) (fun _ => ?_) | refine Both2.mk (fun _ => ?_) ?_ | (refine Need.mk ?_ ?_; (first | omega | with_reducible exact CEq.refl _ | (dsimp only; omega) | (dsimp only [rng]; omega) | (rw [Int.toNat_natCast]; omega))))
      | ((with_reducible refine Need.mk ?_ ?_); exact CEq.refl _)
      | ((with_reducible fail_if_success first | refine LoopVC.mk ?_ | refine Need.mk ?_ ?_ | refine CallVC.mk ?_ | refine LoopEnd.mk ?_ | refine Out.mk ?_ | show False | refine NeedI.mk ?_ ?_); conv => whnf)
    refine CallVC.mk' (fun _ => awake_ok L) (fun _ => .nil) ?_
    repeat' first
      | (with_reducible first | refine NeedI.mk (fun h => h) ?_ | refine NeedI.mk (fun h => h.2) ?_ | refine NeedI.mk (fun h => h.1) ?_ | (show Done; exact Done.mk) | refine Both.mk (fun _ => ?_) (fun _ => ?_) | refine Both2.mk (fun _ => ?_) ?_ | (refine Need.mk ?_ ?_; (first | omega | with_reducible exact CEq.refl _ | (dsimp only; omega) | (dsimp only [rng]; omega) | (rw [Int.toNat_natCast]; omega))))
      | ((with_reducible refine Need.mk ?_ ?_); exact CEq.refl _)
      | ((with_reducible fail_if_success first | refine LoopVC.mk ?_ | refine Need.mk ?_ ?_ | refine CallVC.mk ?_ | refine LoopEnd.mk ?_ | refine Out.mk ?_ | show False | refine NeedI.mk ?_ ?_); conv => whnf)
set_option maxHeartbeats 8000000 in
set_option maxRecDepth 100000 in
theorem deviceFault_law (L : KLV P F) (hk : law04_DeviceFault_k P F) (d : Dv) (i : Int) (W : EDv.wf d) :
    FnOk P (F 158) [.many 4 (dvE d), .one (.int .i64 i)] [.one (.im (.bool true))] := by
  have K := L.k
  have R := L.r
  refine fnOk K.k.m hk ?_
  have Wl := W.2.2.1
  repeat' first
    | (with_reducible first | refine NeedI.mk (fun h => h) ?_ | refine NeedI.mk (fun h => h.2) ?_ | refine NeedI.mk (fun h => h.1) ?_ | (show Done; exact Done.mk) | refine Both.mk (fun _ => ?_) (fun _ => ?_) | refine Both2.mk (fun _ => ?_) ?_ | (refine Need.mk ?_ ?_; (first | omega | with_reducible exact CEq.refl _ | (dsimp only; omega) | (dsimp only [rng]; omega) | (rw [Int.toNat_natCast]; omega))))
    | ((with_reducible refine Need.mk ?_ ?_); exact CEq.refl _)
    | ((with_reducible fail_if_success first | refine LoopVC.mk ?_ | refine Need.mk ?_ ?_ | refine CallVC.mk ?_ | refine LoopEnd.mk ?_ | refine Out.mk ?_ | show False | refine NeedI.mk ?_ ?_); conv => whnf)
  refine CallVC.mk' (fun _ => ref_ok R d W) (fun _ => .cons ((.many fun j hj => by (rcases (show j = 0 ∨ j = 1 ∨ j = 2 ∨ j = 3 by omega) with rfl | rfl | rfl | rfl <;> exact CEq.refl _))) .nil) ?_
  repeat' first
    | (with_reducible first | refine NeedI.mk (fun h => h) ?_ | refine NeedI.mk (fun h => h.2) ?_ | refine NeedI.mk (fun h => h.1) ?_ | (show Done; exact Done.mk) | refine Both.mk (fun _ => ?_) (fun _ => ?_) | refine Both2.mk (fun _ => ?_) ?_ | (refine Need.mk ?_ ?_; (first | omega | with_reducible exact CEq.refl _ | (dsimp only; omega) | (dsimp only [rng]; omega) | (rw [Int.toNat_natCast]; omega))))
    | ((with_reducible refine Need.mk ?_ ?_); exact CEq.refl _)
    | ((with_reducible fail_if_success first | refine LoopVC.mk ?_ | refine Need.mk ?_ ?_ | refine CallVC.mk ?_ | refine LoopEnd.mk ?_ | refine Out.mk ?_ | show False | refine NeedI.mk ?_ ?_); conv => whnf)
  refine CallVC.mk' (fun _ => rrightV_ok R (refV d) (refV_wf W)) (fun _ => .cons ((.many fun j hj => by (rcases (show j = 0 ∨ j = 1 ∨ j = 2 ∨ j = 3 by omega) with rfl | rfl | rfl | rfl <;> exact CEq.refl _))) .nil) ?_
  repeat' first
    | (with_reducible first | refine NeedI.mk (fun h => h) ?_ | refine NeedI.mk (fun h => h.2) ?_ | refine NeedI.mk (fun h => h.1) ?_ | (show Done; exact Done.mk) | refine Both.mk (fun _ => ?_) (fun _ => ?_) | refine Both2.mk (fun _ => ?_) ?_ | (refine Need.mk ?_ ?_; (first | omega | with_reducible exact CEq.refl _ | (dsimp only; omega) | (dsimp only [rng]; omega) | (rw [Int.toNat_natCast]; omega))))
    | ((with_reducible refine Need.mk ?_ ?_); exact CEq.refl _)
    | ((with_reducible fail_if_success first | refine LoopVC.mk ?_ | refine Need.mk ?_ ?_ | refine CallVC.mk ?_ | refine LoopEnd.mk ?_ | refine Out.mk ?_ | show False | refine NeedI.mk ?_ ?_); conv => whnf)
  · refine CallVC.mk' (fun _ => awake_ok L) (fun _ => .nil) ?_
    repeat' first
      | (with_reducible first | refine NeedI.mk (fun h => h) ?_ | refine NeedI.mk (fun h => h.2) ?_ | refine NeedI.mk (fun h => h.1) ?_ | (show Done; exact Done.mk) | refine Both.mk (fun _ => ?_) (fun _ => ?_) | refine Both2.mk (fun _ => ?_) ?_ | (refine Need.mk ?_ ?_; (first | omega | with_reducible exact CEq.refl _ | (dsimp only; omega) | (dsimp only [rng]; omega) | (rw [Int.toNat_natCast]; omega))))
      | ((with_reducible refine Need.mk ?_ ?_); exact CEq.refl _)
      | ((with_reducible fail_if_success first | refine LoopVC.mk ?_ | refine Need.mk ?_ ?_ | refine CallVC.mk ?_ | refine LoopEnd.mk ?_ | refine Out.mk ?_ | show False | refine NeedI.mk ?_ ?_); conv => whnf)
  rename_i h
  simp only [Bool.or_eq_false_iff, Bool.not_eq_false', decide_eq_true_eq, decide_eq_false_iff_not] at h
  obtain ⟨⟨⟨h1, h2⟩, h3⟩, h4⟩ := h
  have S := h1.small
  rw [refV_ok h1] at h2
  obtain ⟨a, rfl⟩ : ∃ a : Nat, i = a := ⟨i.toNat, by omega⟩
  have hno : ¬ finNo d a := by
    rintro (x | x | x)
    · exact x h2
    · exact h3 x
    · exact h4 x
  have ha : a < d.flight.length := by omega
  obtain ⟨a', e0, -, -, g1, g2, g3, g4⟩ := fin_yes (fault := false) hno
  obtain rfl : a = a' := by omega
  obtain ⟨t1, t2, t3, t4, -⟩ := fin_told hno
  have hl := without_len ha
  have hmy := (h2.2.2 a ha).2.2
  refine CallVC.mk' (fun _ => finish_ok K d a true S) (fun _ => .cons ((.many fun j hj => by (rcases (show j = 0 ∨ j = 1 ∨ j = 2 ∨ j = 3 by omega) with rfl | rfl | rfl | rfl <;> exact CEq.refl _))) (.cons (.one (CEq.refl _)) (.cons (.one (CEq.refl _)) .nil))) ?_
  rw [fin_fault hno]
  repeat' first
    | (with_reducible first | refine NeedI.mk (fun h => h) ?_ | refine NeedI.mk (fun h => h.2) ?_ | refine NeedI.mk (fun h => h.1) ?_ | (show Done; exact Done.mk) | refine Both.mk (fun _ => ?_) (fun _ => ?_) | refine Both2.mk (fun _ => ?_) ?_ | (refine Need.mk ?_ ?_; (first | omega | with_reducible exact CEq.refl _ | (dsimp only; omega) | (dsimp only [rng]; omega) | (rw [Int.toNat_natCast]; omega))))
    | ((with_reducible refine Need.mk ?_ ?_); exact CEq.refl _)
    | ((with_reducible fail_if_success first | refine LoopVC.mk ?_ | refine Need.mk ?_ ?_ | refine CallVC.mk ?_ | refine LoopEnd.mk ?_ | refine Out.mk ?_ | show False | refine NeedI.mk ?_ ?_); conv => whnf)
  refine CallVC.mk' (fun _ => finish_ok K d a false S) (fun _ => .cons ((.many fun j hj => by (rcases (show j = 0 ∨ j = 1 ∨ j = 2 ∨ j = 3 by omega) with rfl | rfl | rfl | rfl <;> exact CEq.refl _))) (.cons (.one (CEq.refl _)) (.cons (.one (CEq.refl _)) .nil))) ?_
  repeat' first
    | (with_reducible first | refine NeedI.mk (fun h => h) ?_ | refine NeedI.mk (fun h => h.2) ?_ | refine NeedI.mk (fun h => h.1) ?_ | (show Done; exact Done.mk) | refine Both.mk (fun _ => ?_) (fun _ => ?_) | refine Both2.mk (fun _ => ?_) ?_ | (refine Need.mk ?_ ?_; (first | omega | with_reducible exact CEq.refl _ | (dsimp only; omega) | (dsimp only [rng]; omega) | (rw [Int.toNat_natCast]; omega))))
    | ((with_reducible refine Need.mk ?_ ?_); exact CEq.refl _)
    | ((with_reducible fail_if_success first | refine LoopVC.mk ?_ | refine Need.mk ?_ ?_ | refine CallVC.mk ?_ | refine LoopEnd.mk ?_ | refine Out.mk ?_ | show False | refine NeedI.mk ?_ ?_); conv => whnf)
  refine CallVC.mk' (fun _ => S03.same_ok R.r d.disk d.disk S.k S.k) (fun _ => .cons ((.many fun j hj => by (rcases (show j = 0 ∨ j = 1 by omega) with rfl | rfl <;> exact CEq.refl _))) (.cons ((.many fun j hj => by (rcases (show j = 0 ∨ j = 1 by omega) with rfl | rfl <;> exact CEq.refl _))) .nil)) ?_
  rw [Int.toNat_natCast, decide_eq_true (rfl : d.disk = d.disk), g2]
  repeat' first
    | (with_reducible first | refine NeedI.mk (fun h => h) ?_ | refine NeedI.mk (fun h => h.2) ?_ | refine NeedI.mk (fun h => h.1) ?_ | (show Done; exact Done.mk) | refine Both.mk (fun _ => ?_) (fun _ => ?_) | refine Both2.mk (fun _ => ?_) ?_ | (refine Need.mk ?_ ?_; (first | omega | with_reducible exact CEq.refl _ | (dsimp only; omega) | (dsimp only [rng]; omega) | (rw [Int.toNat_natCast]; omega))))
    | ((with_reducible refine Need.mk ?_ ?_); exact CEq.refl _)
    | ((with_reducible fail_if_success first | refine LoopVC.mk ?_ | refine Need.mk ?_ ?_ | refine CallVC.mk ?_ | refine LoopEnd.mk ?_ | refine Out.mk ?_ | show False | refine NeedI.mk ?_ ?_); conv => whnf)
  · rename_i h
    exfalso
    simp only [cond_true, rq_eq, hl] at h
    simp at h
    omega
  refine CallVC.mk' (fun _ => S03.same_ok R.r (finD d a false).1.disk d.disk (S03.right.small g3) S.k) (fun _ => .cons ((.many fun j hj => by (rcases (show j = 0 ∨ j = 1 by omega) with rfl | rfl <;> exact CEq.refl _))) (.cons ((.many fun j hj => by (rcases (show j = 0 ∨ j = 1 by omega) with rfl | rfl <;> exact CEq.refl _))) .nil)) ?_
  repeat' first
    | (with_reducible first | refine NeedI.mk (fun h => h) ?_ | refine NeedI.mk (fun h => h.2) ?_ | refine NeedI.mk (fun h => h.1) ?_ | (show Done; exact Done.mk) | refine Both.mk (fun _ => ?_) (fun _ => ?_) | refine Both2.mk (fun _ => ?_) ?_ | (refine Need.mk ?_ ?_; (first | omega | with_reducible exact CEq.refl _ | (dsimp only; omega) | (dsimp only [rng]; omega) | (rw [Int.toNat_natCast]; omega))))
    | ((with_reducible refine Need.mk ?_ ?_); exact CEq.refl _)
    | ((with_reducible fail_if_success first | refine LoopVC.mk ?_ | refine Need.mk ?_ ?_ | refine CallVC.mk ?_ | refine LoopEnd.mk ?_ | refine Out.mk ?_ | show False | refine NeedI.mk ?_ ?_); conv => whnf)
  · rename_i h5 h6
    exfalso
    clear h5
    simp only [Bool.and_eq_true, Bool.or_eq_true, Bool.not_eq_true', decide_eq_true_eq, decide_eq_false_iff_not] at h6
    obtain ⟨k1, h6⟩ := h6
    obtain ⟨u1, u2, u3⟩ := t4 k1
    have hp : 1 ≤ (d.flight.getD a default).page ∧ (d.flight.getD a default).page ≤ 16 := by rcases hmy with x | x | x <;> omega
    have u4 := two_len h2.1.1 h2.1.2 hp.1 hp.2
    rw [← u3] at u4
    rcases h6 with (h6 | h6) | h6
    · exact h6 u2
    · exact h6 u1
    · exact h6 (by omega)
  refine CallVC.mk' (fun _ => awake_ok L) (fun _ => .nil) ?_
  repeat' first
    | (with_reducible first | refine NeedI.mk (fun h => h) ?_ | refine NeedI.mk (fun h => h.2) ?_ | refine NeedI.mk (fun h => h.1) ?_ | (show Done; exact Done.mk) | refine Both.mk (fun _ => ?_) (fun _ => ?_) | refine Both2.mk (fun _ => ?_) ?_ | (refine Need.mk ?_ ?_; (first | omega | with_reducible exact CEq.refl _ | (dsimp only; omega) | (dsimp only [rng]; omega) | (rw [Int.toNat_natCast]; omega))))
    | ((with_reducible refine Need.mk ?_ ?_); exact CEq.refl _)
    | ((with_reducible fail_if_success first | refine LoopVC.mk ?_ | refine Need.mk ?_ ?_ | refine CallVC.mk ?_ | refine LoopEnd.mk ?_ | refine Out.mk ?_ | show False | refine NeedI.mk ?_ ?_); conv => whnf)
  refine Need.mk (eB (by simp [t1, t2, g1])) ?_
  repeat' first
    | (with_reducible first | refine NeedI.mk (fun h => h) ?_ | refine NeedI.mk (fun h => h.2) ?_ | refine NeedI.mk (fun h => h.1) ?_ | (show Done; exact Done.mk) | refine Both.mk (fun _ => ?_) (fun _ => ?_) | refine Both2.mk (fun _ => ?_) ?_ | (refine Need.mk ?_ ?_; (first | omega | with_reducible exact CEq.refl _ | (dsimp only; omega) | (dsimp only [rng]; omega) | (rw [Int.toNat_natCast]; omega))))
    | ((with_reducible refine Need.mk ?_ ?_); exact CEq.refl _)
    | ((with_reducible fail_if_success first | refine LoopVC.mk ?_ | refine Need.mk ?_ ?_ | refine CallVC.mk ?_ | refine LoopEnd.mk ?_ | refine Out.mk ?_ | show False | refine NeedI.mk ?_ ?_); conv => whnf)
set_option maxHeartbeats 8000000 in
set_option maxRecDepth 100000 in
theorem deviceOrder_law (L : KLV P F) (hk : law04_DeviceOrder_k P F) (d : Dv) (faults : UInt8) (W : EDv.wf d) :
    FnOk P (F 159) [.many 4 (dvE d), .one (.int .u8 faults.toNat)] [.one (.im (.bool true))] := by
  have K := L.k
  have R := L.r
  refine fnOk K.k.m hk ?_
  have Wl := W.2.2.1
  repeat' first
    | (with_reducible first | refine NeedI.mk (fun h => h) ?_ | refine NeedI.mk (fun h => h.2) ?_ | refine NeedI.mk (fun h => h.1) ?_ | (show Done; exact Done.mk) | refine Both.mk (fun _ => ?_) (fun _ => ?_) | refine Both2.mk (fun _ => ?_) ?_ | (refine Need.mk ?_ ?_; (first | omega | with_reducible exact CEq.refl _ | (dsimp only; omega) | (dsimp only [rng]; omega) | (rw [Int.toNat_natCast]; omega))))
    | ((with_reducible refine Need.mk ?_ ?_); exact CEq.refl _)
    | ((with_reducible fail_if_success first | refine LoopVC.mk ?_ | refine Need.mk ?_ ?_ | refine CallVC.mk ?_ | refine LoopEnd.mk ?_ | refine Out.mk ?_ | show False | refine NeedI.mk ?_ ?_); conv => whnf)
  refine CallVC.mk' (fun _ => ref_ok R d W) (fun _ => .cons ((.many fun j hj => by (rcases (show j = 0 ∨ j = 1 ∨ j = 2 ∨ j = 3 by omega) with rfl | rfl | rfl | rfl <;> exact CEq.refl _))) .nil) ?_
  repeat' first
    | (with_reducible first | refine NeedI.mk (fun h => h) ?_ | refine NeedI.mk (fun h => h.2) ?_ | refine NeedI.mk (fun h => h.1) ?_ | (show Done; exact Done.mk) | refine Both.mk (fun _ => ?_) (fun _ => ?_) | refine Both2.mk (fun _ => ?_) ?_ | (refine Need.mk ?_ ?_; (first | omega | with_reducible exact CEq.refl _ | (dsimp only; omega) | (dsimp only [rng]; omega) | (rw [Int.toNat_natCast]; omega))))
    | ((with_reducible refine Need.mk ?_ ?_); exact CEq.refl _)
    | ((with_reducible fail_if_success first | refine LoopVC.mk ?_ | refine Need.mk ?_ ?_ | refine CallVC.mk ?_ | refine LoopEnd.mk ?_ | refine Out.mk ?_ | show False | refine NeedI.mk ?_ ?_); conv => whnf)
  refine CallVC.mk' (fun _ => rrightV_ok R (refV d) (refV_wf W)) (fun _ => .cons ((.many fun j hj => by (rcases (show j = 0 ∨ j = 1 ∨ j = 2 ∨ j = 3 by omega) with rfl | rfl | rfl | rfl <;> exact CEq.refl _))) .nil) ?_
  repeat' first
    | (with_reducible first | refine NeedI.mk (fun h => h) ?_ | refine NeedI.mk (fun h => h.2) ?_ | refine NeedI.mk (fun h => h.1) ?_ | (show Done; exact Done.mk) | refine Both.mk (fun _ => ?_) (fun _ => ?_) | refine Both2.mk (fun _ => ?_) ?_ | (refine Need.mk ?_ ?_; (first | omega | with_reducible exact CEq.refl _ | (dsimp only; omega) | (dsimp only [rng]; omega) | (rw [Int.toNat_natCast]; omega))))
    | ((with_reducible refine Need.mk ?_ ?_); exact CEq.refl _)
    | ((with_reducible fail_if_success first | refine LoopVC.mk ?_ | refine Need.mk ?_ ?_ | refine CallVC.mk ?_ | refine LoopEnd.mk ?_ | refine Out.mk ?_ | show False | refine NeedI.mk ?_ ?_); conv => whnf)
  · refine CallVC.mk' (fun _ => awake_ok L) (fun _ => .nil) ?_
    repeat' first
      | (with_reducible first | refine NeedI.mk (fun h => h) ?_ | refine NeedI.mk (fun h => h.2) ?_ | refine NeedI.mk (fun h => h.1) ?_ | (show Done; exact Done.mk) | refine Both.mk (fun _ => ?_) (fun _ => ?_) | refine Both2.mk (fun _ => ?_) ?_ | (refine Need.mk ?_ ?_; (first | omega | with_reducible exact CEq.refl _ | (dsimp only; omega) | (dsimp only [rng]; omega) | (rw [Int.toNat_natCast]; omega))))
      | ((with_reducible refine Need.mk ?_ ?_); exact CEq.refl _)
      | ((with_reducible fail_if_success first | refine LoopVC.mk ?_ | refine Need.mk ?_ ?_ | refine CallVC.mk ?_ | refine LoopEnd.mk ?_ | refine Out.mk ?_ | show False | refine NeedI.mk ?_ ?_); conv => whnf)
  rename_i h
  simp only [Bool.or_eq_false_iff, Bool.not_eq_false', decide_eq_true_eq, decide_eq_false_iff_not] at h
  obtain ⟨h1, h2⟩ := h
  have S := h1.small
  rw [refV_ok h1] at h2
  repeat' first
    | (with_reducible first | refine NeedI.mk (fun h => h) ?_ | refine NeedI.mk (fun h => h.2) ?_ | refine NeedI.mk (fun h => h.1) ?_ | (show Done; exact Done.mk) | refine Both.mk (fun _ => ?_) (fun _ => ?_) | refine Both2.mk (fun _ => ?_) ?_ | (refine Need.mk ?_ ?_; (first | omega | with_reducible exact CEq.refl _ | (dsimp only; omega) | (dsimp only [rng]; omega) | (rw [Int.toNat_natCast]; omega))))
    | ((with_reducible refine Need.mk ?_ ?_); exact CEq.refl _)
    | ((with_reducible fail_if_success first | refine LoopVC.mk ?_ | refine Need.mk ?_ ?_ | refine CallVC.mk ?_ | refine LoopEnd.mk ?_ | refine Out.mk ?_ | show False | refine NeedI.mk ?_ ?_); conv => whnf)
  refine LoopVC.inv (fun x : Nat × Dv => x.1 ≤ d.flight.length ∧ rightV x.2 ∧ x.2.flight = d.flight.drop x.1) (fun x => stL [(1, .c (.int .u8 faults.toNat)), (2, .va 2 0 0), (7, .c (.int .i64 (ahead d.flight x.1))), (32, .c (.int .i64 d.flight.length)), (33, .c (.int .i64 x.1))]
    [(2, vE [.c (slL 1 strE x.2.disk.secs), .c (slL 2 wrE x.2.disk.cache), .c (.int .i64 x.2.next), .c (slL 4 rqE x.2.flight)])]) (fun x => d.flight.length - x.1) (0, d) ⟨Nat.zero_le _, h2, rfl⟩ ?_ ?_
  · (refine Le.of ?_ ?_ <;> repeat' first | exact trivial | exact CEq.refl _ | exact rfl | exact cI (by push_cast; first | rfl | omega) | exact SubE.dat fun _ _ _ _ => CEq.refl _ | refine SubE.var2 ?_ ?_ | refine SubE.var1 ?_ | refine SubE.var3 ?_ ?_ ?_ | refine SubE.var4 ?_ ?_ ?_ ?_ | refine SubE.var5 ?_ ?_ ?_ ?_ ?_ | refine Exists.intro _ (And.intro rfl ?_) | refine And.intro ?_ ?_)
  rintro Q hQ ⟨k, e⟩ ⟨hk, he, hf⟩
  dsimp only at hk he hf
  repeat' first
    | (with_reducible first | refine NeedI.mk (fun h => h) ?_ | refine NeedI.mk (fun h => h.2) ?_ | refine NeedI.mk (fun h => h.1) ?_ | (show Done; exact Done.mk) | refine Both.mk (fun _ => ?_) (fun _ => ?_) | refine Both2.mk (fun _ => ?_) ?_ | (refine Need.mk ?_ ?_; (first | omega | with_reducible exact CEq.refl _ | (dsimp only; omega) | (dsimp only [rng]; omega) | (rw [Int.toNat_natCast]; omega))))
    | ((with_reducible refine Need.mk ?_ ?_); exact CEq.refl _)
    | ((with_reducible fail_if_success first | refine LoopVC.mk ?_ | refine Need.mk ?_ ?_ | refine CallVC.mk ?_ | refine LoopEnd.mk ?_ | refine Out.mk ?_ | show False | refine NeedI.mk ?_ ?_); conv => whnf)
  · rename_i g1
    have g1 : k < d.flight.length := by have := of_decide_eq_true g1; omega
    generalize decide (bitI .and .u8 (shrI .u8 faults.toNat k) 1 = 1) = fault
    refine CallVC.mk' (fun _ => finish_ok K e 0 fault he.small) (fun _ => .cons ((.many fun j hj => by (rcases (show j = 0 ∨ j = 1 ∨ j = 2 ∨ j = 3 by omega) with rfl | rfl | rfl | rfl <;> exact CEq.refl _))) (.cons (.one (CEq.refl _)) (.cons (.one (CEq.refl _)) .nil))) ?_
    have hno : ¬ finNo e ((0 : Nat) : Int) := by
      rintro (x | x | x)
      · exact x he
      · omega
      · rw [hf, List.length_drop] at x; omega
    have ft : (finD e 0 fault).2.1.ticket = (e.flight.getD 0 default).ticket := fin_ticket (a := 0) hno
    have fd : e.flight.getD 0 default = d.flight.getD k default := by
      rw [hf, List.getD_eq_getElem?_getD, List.getElem?_drop, ← List.getD_eq_getElem?_getD]; rfl
    rw [fd] at ft
    have fe : (finD e 0 fault).2.2 ≠ 1 := fin_err (i := ((0 : Nat) : Int)) hno
    have fr : rightV (finD e 0 fault).1 := fin_right (i := ((0 : Nat) : Int)) hno
    have ff : (finD e 0 fault).1.flight = d.flight.drop (k + 1) := by
      obtain ⟨a', e0, -, -, -, g2, -, -⟩ := fin_yes (fault := fault) hno
      obtain rfl : 0 = a' := by omega
      rw [show (finD e 0 fault).1.flight = without e.flight 0 from g2, hf]
      unfold without
      rw [List.take_zero, List.nil_append, List.drop_drop]
    have fk := (h2.2.2 k g1).1
    repeat' first
      | (with_reducible first | refine NeedI.mk (fun h => h) ?_ | refine NeedI.mk (fun h => h.2) ?_ | refine NeedI.mk (fun h => h.1) ?_ | (show Done; exact Done.mk) | refine Both.mk (fun _ => ?_) (fun _ => ?_) | refine Both2.mk (fun _ => ?_) ?_ | (refine Need.mk ?_ ?_; (first | omega | with_reducible exact CEq.refl _ | (dsimp only; omega) | (dsimp only [rng]; omega) | (rw [Int.toNat_natCast]; omega))))
      | ((with_reducible refine Need.mk ?_ ?_); exact CEq.refl _)
      | ((with_reducible fail_if_success first | refine LoopVC.mk ?_ | refine Need.mk ?_ ?_ | refine CallVC.mk ?_ | refine LoopEnd.mk ?_ | refine Out.mk ?_ | show False | refine NeedI.mk ?_ ?_); conv => whnf)
    · rename_i g2
      exfalso
      simp only [Bool.or_eq_true, decide_eq_true_eq] at g2
      rcases g2 with g2 | g2
      · exact fe g2
      · rw [ft] at g2
        have : ahead d.flight k < (d.flight.getD k default).ticket := fk
        omega
    · refine LoopEnd.mk ⟨(k + 1, (finD e 0 fault).1), ⟨g1, fr, ff⟩, by show d.flight.length - (k + 1) < d.flight.length - k; omega, ?_⟩
      have fa : ahead d.flight (k + 1) = (finD e 0 fault).2.1.ticket := by
        unfold ahead
        rw [if_neg (by omega), Nat.add_sub_cancel, ft]
      rw [← fa]
      (refine Le.of ?_ ?_ <;> repeat' first | exact trivial | exact CEq.refl _ | exact rfl | exact cI (by push_cast; first | rfl | omega) | exact SubE.dat fun _ _ _ _ => CEq.refl _ | refine SubE.var2 ?_ ?_ | refine SubE.var1 ?_ | refine SubE.var3 ?_ ?_ ?_ | refine SubE.var4 ?_ ?_ ?_ ?_ | refine SubE.var5 ?_ ?_ ?_ ?_ ?_ | refine Exists.intro _ (And.intro rfl ?_) | refine And.intro ?_ ?_)
  · rename_i g1
    have g1 : k = d.flight.length := by have := of_decide_eq_false g1; omega
    have hz : e.flight = [] := by rw [hf, g1, List.drop_length]
    refine Out.mk (hQ _ _ ?_)
    repeat' first
      | (with_reducible first | refine NeedI.mk (fun h => h) ?_ | refine NeedI.mk (fun h => h.2) ?_ | refine NeedI.mk (fun h => h.1) ?_ | (show Done; exact Done.mk) | refine Both.mk (fun _ => ?_) (fun _ => ?_) | refine Both2.mk (fun _ => ?_) ?_ | (refine Need.mk ?_ ?_; (first | omega | with_reducible exact CEq.refl _ | (dsimp only; omega) | (dsimp only [rng]; omega) | (rw [Int.toNat_natCast]; omega))))
      | ((with_reducible refine Need.mk ?_ ?_); exact CEq.refl _)
      | ((with_reducible fail_if_success first | refine LoopVC.mk ?_ | refine Need.mk ?_ ?_ | refine CallVC.mk ?_ | refine LoopEnd.mk ?_ | refine Out.mk ?_ | show False | refine NeedI.mk ?_ ?_); conv => whnf)
    refine CallVC.mk' (fun _ => finish_ok K e 0 false he.small) (fun _ => .cons ((.many fun j hj => by (rcases (show j = 0 ∨ j = 1 ∨ j = 2 ∨ j = 3 by omega) with rfl | rfl | rfl | rfl <;> exact CEq.refl _))) (.cons (.one (CEq.refl _)) (.cons (.one (CEq.refl _)) .nil))) ?_
    rw [show finD e 0 false = (e, ⟨0, 0, 0, []⟩, 1) from if_pos (.inr (.inr (by rw [hz]; decide)))]
    repeat' first
      | (with_reducible first | refine NeedI.mk (fun h => h) ?_ | refine NeedI.mk (fun h => h.2) ?_ | refine NeedI.mk (fun h => h.1) ?_ | (show Done; exact Done.mk) | refine Both.mk (fun _ => ?_) (fun _ => ?_) | refine Both2.mk (fun _ => ?_) ?_ | (refine Need.mk ?_ ?_; (first | omega | with_reducible exact CEq.refl _ | (dsimp only; omega) | (dsimp only [rng]; omega) | (rw [Int.toNat_natCast]; omega))))
      | ((with_reducible refine Need.mk ?_ ?_); exact CEq.refl _)
      | ((with_reducible fail_if_success first | refine LoopVC.mk ?_ | refine Need.mk ?_ ?_ | refine CallVC.mk ?_ | refine LoopEnd.mk ?_ | refine Out.mk ?_ | show False | refine NeedI.mk ?_ ?_); conv => whnf)
    refine CallVC.mk' (fun _ => awake_ok L) (fun _ => .nil) ?_
    repeat' first
      | (with_reducible first | refine NeedI.mk (fun h => h) ?_ | refine NeedI.mk (fun h => h.2) ?_ | refine NeedI.mk (fun h => h.1) ?_ | (show Done; exact Done.mk) | refine Both.mk (fun _ => ?_) (fun _ => ?_) | refine Both2.mk (fun _ => ?_) ?_ | (refine Need.mk ?_ ?_; (first | omega | with_reducible exact CEq.refl _ | (dsimp only; omega) | (dsimp only [rng]; omega) | (rw [Int.toNat_natCast]; omega))))
      | ((with_reducible refine Need.mk ?_ ?_); exact CEq.refl _)
      | ((with_reducible fail_if_success first | refine LoopVC.mk ?_ | refine Need.mk ?_ ?_ | refine CallVC.mk ?_ | refine LoopEnd.mk ?_ | refine Out.mk ?_ | show False | refine NeedI.mk ?_ ?_); conv => whnf)
    refine Need.mk (eB (by simp [hz])) ?_
    repeat' first
      | (with_reducible first | refine NeedI.mk (fun h => h) ?_ | refine NeedI.mk (fun h => h.2) ?_ | refine NeedI.mk (fun h => h.1) ?_ | (show Done; exact Done.mk) | refine Both.mk (fun _ => ?_) (fun _ => ?_) | refine Both2.mk (fun _ => ?_) ?_ | (refine Need.mk ?_ ?_; (first | omega | with_reducible exact CEq.refl _ | (dsimp only; omega) | (dsimp only [rng]; omega) | (rw [Int.toNat_natCast]; omega))))
      | ((with_reducible refine Need.mk ?_ ?_); exact CEq.refl _)
      | ((with_reducible fail_if_success first | refine LoopVC.mk ?_ | refine Need.mk ?_ ?_ | refine CallVC.mk ?_ | refine LoopEnd.mk ?_ | refine Out.mk ?_ | show False | refine NeedI.mk ?_ ?_); conv => whnf)
end
end Lk.S04
namespace Lk.S04
open Go Lk Lk.C Lk.S03
structure Inv (i : Nat) (d : Dv) (told : Nat → Bool) (last : Nat → List UInt8) : Prop where
  r : rightV d
  len : d.disk.secs.length = 35
  n : d.next ≤ i
  c : d.disk.cache.length ≤ 2 * i
  t : ∀ r ∈ d.flight, told r.ticket.toNat = false
  p : ∀ r ∈ d.flight, r.page ≤ 4
  l : ∀ p : Nat, 1 ≤ p → p ≤ 4 → last p = [] ∨ two d.disk p = last p
theorem two_put {d : Dsk} {r : Rq} {p : Nat} (h : right d) (h35 : d.secs.length = 35) (hc : d.cache.length < 199) (hl : r.data.length = 32) (hp1 : 1 ≤ r.page) (hp2 : r.page ≤ 16) (h1 : 1 ≤ p) (h2 : p ≤ 4) :
    two (putR d r).1 p = if r.page = p then r.data else two d p := by
  obtain ⟨f0, f1⟩ := fits_w h (by omega) hl hp1 hp2
  have e0 : d.putE (w0 r) = 0 := by unfold Dsk.putE; rw [if_pos ⟨h, f0⟩, if_pos (by omega)]
  have hr : right (d.put (w0 r)) := h.put
  have p0 := put_fit h f0 (by omega)
  have f1' : fits (d.put (w0 r)) (w1 r) := by rw [p0]; exact f1
  have hcl : (d.put (w0 r)).cache.length = d.cache.length + 1 := by rw [p0]; simp
  have e1 : (d.put (w0 r)).putE (w1 r) = 0 := by unfold Dsk.putE; rw [if_pos ⟨hr, f1'⟩, if_pos (by omega)]
  have hR : (putR d r).1 = (d.put (w0 r)).put (w1 r) := by unfold putR; rw [if_neg (by rw [e0]; simp), if_neg (by rw [e1]; simp)]
  have hr2 : right ((d.put (w0 r)).put (w1 r)) := hr.put
  have l2 : ((d.put (w0 r)).put (w1 r)).secs.length = 35 := by rw [put_len, put_len, h35]
  have hread : ∀ k : Nat, ((d.put (w0 r)).put (w1 r)).read k = if (k : Int) = hm r.page + 1 then r.data.drop 16 else if (k : Int) = hm r.page then r.data.take 16 else d.read k := fun k => by
    rw [read_put hr, read_put h, e0, e1]
    by_cases a : (k : Int) = hm r.page + 1
    · rw [if_pos a, if_pos ⟨rfl, a⟩]; rfl
    · rw [if_neg a, if_neg (fun x => a x.2)]
      by_cases b : (k : Int) = hm r.page
      · rw [if_pos b, if_pos ⟨rfl, b⟩]; rfl
      · rw [if_neg b, if_neg (fun x => b x.2)]
  have htwo : ∀ d' : Dsk, right d' → d'.secs.length = 35 → two d' p = d'.read (2 * p + 1) ++ d'.read (2 * p + 2) := fun d' h' hl' => by
    unfold two hm
    rw [show 2 * (p : Int) + 1 = ((2 * p + 1 : Nat) : Int) by omega, show ((2 * p + 1 : Nat) : Int) + 1 = ((2 * p + 2 : Nat) : Int) by omega, S04.rd_in h' (by omega), S04.rd_in h' (by omega)]
  rw [hR, htwo _ hr2 l2, htwo d h h35, hread, hread]
  unfold hm
  by_cases e : r.page = p
  · rw [if_pos e, if_neg (by omega), if_pos (by omega), if_pos (by omega), List.take_append_drop]
  · rw [if_neg e, if_neg (by omega), if_neg (by omega), if_neg (by omega), if_neg (by omega)]
theorem two_sync {d : Dsk} {p : Nat} (h : right d) (h35 : d.secs.length = 35) (h1 : 1 ≤ p) (h2 : p ≤ 4) : two d.sync p = two d p := by
  unfold two hm
  rw [show 2 * (p : Int) + 1 = ((2 * p + 1 : Nat) : Int) by omega, show ((2 * p + 1 : Nat) : Int) + 1 = ((2 * p + 2 : Nat) : Int) by omega, S04.rd_in h.sync (by rw [sync_len h]; omega), S04.rd_in h.sync (by rw [sync_len h]; omega), S04.rd_in h (by omega), S04.rd_in h (by omega),
    read_sync h (by omega), read_sync h (by omega)]
theorem put_ok0 {d : Dsk} {r : Rq} (h : right d) (h35 : d.secs.length = 35) (hc : d.cache.length < 199) (hl : r.data.length = 32) (hp1 : 1 ≤ r.page) (hp2 : r.page ≤ 16) : (putR d r).2 = 0 ∧ (putR d r).1.cache.length = d.cache.length + 2 := by
  rw [putR_eq h (by omega) hl hp1 hp2, if_pos (by omega), if_neg (by omega)]
  simp
theorem Inv.zero : Inv 0 v0 (fun _ => false) (fun _ => []) :=
  ⟨by decide +kernel, by decide +kernel, by decide, by decide, fun _ _ => rfl, fun r hr => (by cases hr), fun _ _ _ => .inl rfl⟩
theorem Inv.succ {i : Nat} {d : Dv} {told : Nat → Bool} {last : Nat → List UInt8} (h : Inv i d told last) : Inv (i + 1) d told last := { h with n := by have := h.n; omega, c := by have := h.c; omega }
theorem sub_yes {d : Dv} {k p : Int} {s : List UInt8} (h : rightV d) (hn : d.next < 2147483647) (hm : may k p s) :
    subm d k p s = if 4 ≤ d.flight.length then (d, 0, 6) else (⟨d.disk, d.next + 1, d.flight ++ [⟨d.next, k, p, s⟩]⟩, d.next, 0) := by
  unfold subm
  rw [if_neg (fun x => by rcases x with x | x | x; exact x h; omega; exact x hm)]
theorem okAt_app {n : Int} {l : List Rq} {r : Rq} (h : ∀ i, i < l.length → okAt n l i) (h0 : 0 ≤ n) (ht : r.ticket = n) (hm : may r.kind r.page r.data) : ∀ i, i < (l ++ [r]).length → okAt (n + 1) (l ++ [r]) i := by
  intro i hi
  rw [List.length_append] at hi
  have hi : i < l.length + 1 := hi
  have g : ∀ j, j < l.length → (l ++ [r]).getD j default = l.getD j default := fun j hj => by
    rw [List.getD_eq_getElem?_getD, List.getElem?_append_left hj, ← List.getD_eq_getElem?_getD]
  by_cases hl : i < l.length
  · have := h i hl
    unfold okAt ahead at this ⊢
    rw [g i hl]
    refine ⟨?_, by have := this.2.1; omega, this.2.2⟩
    by_cases e : i = 0
    · rw [if_pos e] at this ⊢; exact this.1
    · rw [if_neg e] at this ⊢; rw [g (i - 1) (by omega)]; exact this.1
  · obtain rfl : i = l.length := by omega
    unfold okAt ahead
    rw [show (l ++ [r]).getD l.length default = r by rw [List.getD_eq_getElem?_getD, List.getElem?_append_right (Nat.le_refl _), Nat.sub_self]; rfl]
    refine ⟨?_, by omega, hm⟩
    by_cases e : l.length = 0
    · rw [if_pos e]; omega
    · rw [if_neg e, g (l.length - 1) (by omega)]
      have := (h (l.length - 1) (by omega)).2.1
      omega
theorem sub_right {d : Dv} {k p : Int} {s : List UInt8} (h : rightV d) (hn : d.next < 2147483647) (hm : may k p s) (hl : d.flight.length < 4) : rightV ⟨d.disk, d.next + 1, d.flight ++ [⟨d.next, k, p, s⟩]⟩ :=
  ⟨h.1, ⟨by show 0 ≤ d.next + 1; have := h.2.1.1; omega, by show d.next + 1 ≤ _; omega, by show (d.flight ++ [_]).length ≤ 4; rw [List.length_append]; show _ + 1 ≤ 4; omega⟩, okAt_app h.2.2 h.2.1.1 rfl hm⟩
/-- One is submitted. -/
theorem Inv.submit {i : Nat} {d : Dv} {told : Nat → Bool} {last : Nat → List UInt8} {k p : Int} {s : List UInt8} (h : Inv i d told last) (hi : i < 60) (ht : ∀ t : Nat, d.next ≤ t → told t = false) (hm : may k p s) (hp : p ≤ 4) :
    Inv (i + 1) (subm d k p s).1 told last ∧ (subm d k p s).1.next = (if (subm d k p s).2.2 = 0 then d.next + 1 else d.next) ∧ ((subm d k p s).2.2 = 0 ↔ d.flight.length < 4) ∧ ((subm d k p s).2.2 = 0 → (subm d k p s).2.1 = d.next) := by
  have hn : d.next < 2147483647 := by have := h.n; omega
  rw [sub_yes h.r hn hm]
  by_cases hl : 4 ≤ d.flight.length
  · rw [if_pos hl]
    exact ⟨h.succ, by simp, ⟨fun x => absurd (show (6 : Int) = 0 from x) (by decide), fun x => by omega⟩, fun x => absurd (show (6 : Int) = 0 from x) (by decide)⟩
  · rw [if_neg hl]
    refine ⟨⟨sub_right h.r hn hm (by omega), h.len, by show d.next + 1 ≤ ((i + 1 : Nat) : Int); have := h.n; omega, by show d.disk.cache.length ≤ _; have := h.c; omega, fun r hr => ?_, fun r hr => ?_, h.l⟩, by simp, ⟨fun _ => by omega, fun _ => rfl⟩, fun _ => rfl⟩
    · rcases List.mem_append.1 hr with hr | hr
      · exact h.t r hr
      · rw [List.mem_singleton.1 hr]
        exact ht d.next.toNat (by have := h.r.2.1.1; omega)
    · rcases List.mem_append.1 hr with hr | hr
      · exact h.p r hr
      · rw [List.mem_singleton.1 hr]; exact hp
theorem ticket_lt {n : Int} {l : List Rq} (h : ∀ i, i < l.length → okAt n l i) {i j : Nat} (hij : i < j) (hj : j < l.length) : (l.getD i default).ticket < (l.getD j default).ticket := by
  induction j with
  | zero => omega
  | succ j ih =>
    have h1 := (h (j + 1) hj).1
    unfold ahead at h1
    rw [if_neg (by omega), Nat.add_sub_cancel] at h1
    by_cases e : i = j
    · rw [e]; exact h1
    · have := ih (by omega) (by omega); omega
theorem ticket_ne {n : Int} {l : List Rq} (h : ∀ i, i < l.length → okAt n l i) {a : Nat} (ha : a < l.length) : ∀ r ∈ without l a, r.ticket ≠ (l.getD a default).ticket := by
  intro r hr
  unfold without at hr
  rcases List.mem_append.1 hr with hr | hr
  · obtain ⟨k, hk, rfl⟩ := List.mem_iff_getElem.1 hr
    rw [List.length_take] at hk
    have := ticket_lt h (i := k) (j := a) (by omega) ha
    rw [getD_eq (show k < l.length by omega)] at this
    rw [List.getElem_take]; omega
  · obtain ⟨k, hk, rfl⟩ := List.mem_iff_getElem.1 hr
    rw [List.length_drop] at hk
    have := ticket_lt h (i := a) (j := a + 1 + k) (by omega) (by omega)
    rw [getD_eq (show a + 1 + k < l.length by omega)] at this
    rw [List.getElem_drop]; omega
/-- One is finished. -/
theorem Inv.finish {i : Nat} {d : Dv} {told : Nat → Bool} {last : Nat → List UInt8} {a : Nat} {fault : Bool} (h : Inv i d told last) (hi : i < 60) (ha : a < d.flight.length) :
    ((finD d a fault).1.next = d.next ∧ (finD d a fault).2.1.ticket = (d.flight.getD a default).ticket ∧ 0 ≤ (finD d a fault).2.1.ticket ∧ (finD d a fault).2.1.ticket < d.next ∧ told (finD d a fault).2.1.ticket.toNat = false ∧
      ((finD d a fault).2.2 = if fault then 8 else 0) ∧ 0 ≤ (finD d a fault).2.1.page ∧ (finD d a fault).2.1.page ≤ 4) ∧
    (fault = false → (finD d a fault).2.1.kind = 1 → last (finD d a fault).2.1.page.toNat ≠ [] → (finD d a fault).2.1.data = last (finD d a fault).2.1.page.toNat) ∧
    Inv (i + 1) (finD d a fault).1 (fun t => if t = (finD d a fault).2.1.ticket.toNat then true else told t) (fun p => if fault = false ∧ (finD d a fault).2.1.kind = 2 ∧ p = (finD d a fault).2.1.page.toNat then (finD d a fault).2.1.data else last p) := by
  have hno : ¬ finNo d a := by
    rintro (x | x | x)
    · exact x h.r
    · omega
    · omega
  obtain ⟨a', e0, -, -, g1, g2, g3, g4⟩ := fin_yes (fault := fault) hno
  obtain rfl : a = a' := by omega
  have ft : (finD d a fault).2.1.ticket = (d.flight.getD a default).ticket := fin_ticket hno
  have hk := h.r.2.2 a ha
  have hpos := ok_pos (fun k hk' => h.r.2.2 k hk') a ha
  have hmem := getD_mem ha
  have hmy := hk.2.2
  have hpg := h.p _ hmem
  have hcl := h.c
  have hpp : (finD d a fault).2.1.page = (d.flight.getD a default).page := by
    cases fault with
    | true => rw [fin_fault hno]
    | false => exact (fin_told hno).2.1
  have hkk : (finD d a fault).2.1.kind = (d.flight.getD a default).kind := by
    cases fault with
    | true => rw [fin_fault hno]
    | false => exact (fin_told hno).2.2.1
  have htn := ticket_ne h.r.2.2 ha
  have hd := h.r.1.1
  have nx : ∀ told' : Nat → Bool, (∀ t, t ≠ (d.flight.getD a default).ticket.toNat → told' t = told t) → ∀ r ∈ (finD d a fault).1.flight, told' r.ticket.toNat = false := fun told' ht r hr => by
    rw [g2] at hr
    have hne := htn r hr
    have hr' := mem_without hr
    have hr0 : 0 ≤ r.ticket := by
      obtain ⟨k, hk, rfl⟩ := List.mem_iff_getElem.1 hr'
      have := ok_pos (fun k hk' => h.r.2.2 k hk') k hk
      rw [getD_eq hk] at this; exact this
    rw [ht _ (by omega)]
    exact h.t r hr'
  have pg : ∀ r ∈ (finD d a fault).1.flight, r.page ≤ 4 := fun r hr => h.p r (mem_without (by rw [← g2]; exact hr))
  have ct : ∀ told' : Nat → Bool, (∀ t, t ≠ (d.flight.getD a default).ticket.toNat → told' t = told t) → ∀ last', (finD d a fault).1.disk.cache.length ≤ 2 * (i + 1) → (∀ p : Nat, 1 ≤ p → p ≤ 4 → last' p = [] ∨ two (finD d a fault).1.disk p = last' p) → Inv (i + 1) (finD d a fault).1 told' last' := fun told' ht last' hc hl =>
    ⟨fin_right hno, g4.trans h.len, by rw [g1]; have := h.n; omega, hc, nx told' ht, pg, hl⟩
  have pr : 0 ≤ (d.flight.getD a default).page := by rcases hmy with x | x | x <;> omega
  have errE : (finD d a fault).2.2 = if fault then 8 else 0 := by
    cases fault with
    | true => rw [fin_fault hno]; rfl
    | false =>
      obtain ⟨-, -, -, f1, -, f3, f4⟩ := fin_told hno
      rcases hmy with ⟨x, -⟩ | ⟨x, y, z⟩ | ⟨x, -⟩
      · exact (f1 x).2.1
      · rw [(f3 x).2]; exact (put_ok0 hd h.len (by omega) z y.1 y.2).1
      · exact (f4 x).2
  refine ⟨⟨g1, ft, by rw [ft]; exact hpos, by rw [ft]; exact hk.2.1, by rw [ft]; exact h.t _ hmem, errE, by rw [hpp]; exact pr, by rw [hpp]; exact hpg⟩, fun hf hk1 hne => ?_, ct _ (fun t ht => by rw [ft]; exact if_neg ht) _ ?_ fun p h1 h2 => ?_⟩
  · subst hf
    obtain ⟨-, -, -, f1, -⟩ := fin_told hno
    rw [hkk] at hk1
    rw [(f1 hk1).2.2, hpp]
    rw [hpp] at hne
    have : 1 ≤ (d.flight.getD a default).page := by rcases hmy with x | x | x <;> omega
    rcases h.l (d.flight.getD a default).page.toNat (by omega) (by omega) with e | e
    · exact absurd e hne
    · rw [← e, Int.toNat_of_nonneg pr]
  · cases fault with
    | true => rw [fin_fault hno]; show d.disk.cache.length ≤ _; omega
    | false =>
      obtain ⟨-, -, -, f1, -, f3, f4⟩ := fin_told hno
      rcases hmy with ⟨x, -⟩ | ⟨x, y, z⟩ | ⟨x, -⟩
      · rw [(f1 x).1]; omega
      · rw [(f3 x).1, (put_ok0 hd h.len (by omega) z y.1 y.2).2]; omega
      · rw [(f4 x).1, sync_cache hd]; simp
  · rw [hkk, hpp]
    cases fault with
    | true =>
      rw [if_neg (by simp), fin_fault hno]
      exact h.l p h1 h2
    | false =>
      obtain ⟨-, -, -, f1, f2, f3, f4⟩ := fin_told hno
      rcases hmy with ⟨x, -⟩ | ⟨x, y, z⟩ | ⟨x, -⟩
      · rw [if_neg (by omega), (f1 x).1]
        exact h.l p h1 h2
      · rw [(f3 x).1, two_put hd h.len (by omega) z y.1 y.2 h1 h2]
        by_cases e : (d.flight.getD a default).page = p
        · rw [if_pos ⟨rfl, x, by omega⟩, if_pos e, f2 (by omega)]
          exact .inr rfl
        · rw [if_neg (by omega), if_neg e]
          exact h.l p h1 h2
      · rw [if_neg (by omega), (f4 x).1, two_sync hd h.len h1 h2]
        exact h.l p h1 h2
end Lk.S04
