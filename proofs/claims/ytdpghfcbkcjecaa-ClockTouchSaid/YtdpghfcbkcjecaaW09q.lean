/-
  Chapter 9: ClockTouch.
-/
import Derived.Test.YtdpghfcbkcjecaaW09p
namespace Lk.S09
open Go Lk Lk.C

theorem upd_pins {l : List Frm} {r n : Nat} {x : Frm} {f : Nat → Nat → Cell} (hn : n = l.length) (hx : x = { l.getD r default with pins := 1 }) (hf : ∀ i, i < n → ∀ j, j < 3 → CEq (f i j) (frmE (l.getD i default) j)) :
    ∀ i, i < n → ∀ j, j < 3 → CEq (updC f r 1 (.int .i64 1) i j) (frmE ((l.set r x).getD i default) j) := by
  intro i hi j hj
  rw [updC_at, set_getD (by omega)]
  by_cases h : r = i
  · subst h
    rw [if_pos rfl, hx]
    rcases (show j = 0 ∨ j = 1 ∨ j = 2 by omega) with rfl | rfl | rfl
    · rw [if_neg (by omega)]; exact hf r hi 0 hj
    · rw [if_pos ⟨rfl, rfl⟩]; exact CEq.refl _
    · rw [if_neg (by omega)]; exact hf r hi 2 hj
  · rw [if_neg (by omega), if_neg h]; exact hf i hi j hj

section
variable {P : Program} {F : Nat → Nat}

set_option maxHeartbeats 8000000 in
set_option maxRecDepth 100000 in
theorem clockTouch_law (K : KClock P F) (L : KLaw P F) (hk : law09_ClockTouch_k P F) (a b d : UInt8) :
    FnOk P (F 11) [.one (.int .u8 (a.toNat : Int)), .one (.int .u8 (b.toNat : Int)), .one (.int .u8 (d.toNat : Int))] [.one (.im (.bool true))] := by
  have ha := a.toNat_lt
  have hb := b.toNat_lt
  have hd := d.toNat_lt
  obtain ⟨n, hn⟩ : ∃ n, n = 2 + a.toNat % 7 := ⟨_, rfl⟩
  have hn2 : 2 ≤ n := by omega
  have hn8 : n ≤ 8 := by omega
  have hni : (2 : Int) + (a.toNat : Int) % 7 = (n : Int) := by omega
  have hkn := Nat.mod_lt b.toNat (show 0 < n by omega)
  have hdn := Nat.mod_lt d.toNat (show 0 < n by omega)
  obtain ⟨k, hkk⟩ : ∃ k, k = b.toNat % n := ⟨_, rfl⟩
  obtain ⟨h, hhh⟩ : ∃ h, h = d.toNat % n := ⟨_, rfl⟩
  rw [← hkk] at hkn
  rw [← hhh] at hdn
  have hki : (b.toNat : Int) % (n : Int) = (k : Int) := by rw [hkk]; push_cast; rfl
  have hhi : (d.toNat : Int) % (n : Int) = (h : Int) := by rw [hhh]; push_cast; rfl
  have g1 : rng .u8 ((a.toNat : Int) % 7) := by simp only [rng]; omega
  refine fnOk K.m hk ?_
  repeat' first
    | with_reducible refine NeedI.mk (fun h => h) ?_
    | with_reducible refine NeedI.mk (fun h => h.2) ?_
    | with_reducible refine NeedI.mk (fun h => h.1) ?_
    | with_reducible exact Done.mk
    | with_reducible refine Both.mk (fun _ => ?_) (fun _ => ?_)
    | with_reducible refine Both2.mk (fun _ => ?_) ?_
    | with_reducible refine Need.mk (by first | omega | (simp only [rng]; omega)) ?_
    | (fail_if_success with_reducible refine LoopVC.mk ?_
       fail_if_success with_reducible refine Need.mk ?_ ?_
       fail_if_success with_reducible refine CallVC.mk ?_
       fail_if_success with_reducible refine LoopEnd.mk ?_
       fail_if_success with_reducible refine Out.mk ?_
       fail_if_success with_reducible show False
       fail_if_success with_reducible refine NeedI.mk ?_ ?_
       conv => whnf)
  refine LoopVC.inv (fun x : List Nat × Clk => x.1.length + 1 ≤ n ∧ Tch n k x.1 x.2)
    (fun x => stL [(7, .c (.int .i64 n)), (8, .c (.int .i64 k)), (9, .va 9 0 0), (10, .ra 10 0 1 0 0), (33, .c (.int .i64 ((n : Int) - 1))), (34, .c (.int .i64 x.1.length))]
      [(9, vE [.c (slL 3 frmE x.2.frames), .c (.int .i64 x.2.hand)]), (10, ⟨1, 8, .gen fun i _ => .c (.bool (decide (i ∈ x.1))), false, true⟩)])
    (fun x => n - x.1.length) ([], newC n h) ⟨by show 0 + 1 ≤ n; omega, tch_start hn8 hkn hdn⟩ ((Le.frz 26 _ rfl).trans (Le.ofN [] ⟨.inl (cI hni), .inl (cI ?_), .inl ⟨rfl, rfl, rfl⟩, .inl ⟨rfl, rfl, rfl, rfl, rfl⟩, .inl (cI ?_), .inl rfl, trivial⟩
      ⟨.inr ⟨rfl, _, rfl, .var2 (.frz rfl rfl rfl rfl (Nat.le_of_eq (Nat.zero_add _)) rfl rfl (CEq.list ?_ ?_)) (.inl (cI ?_))⟩, .inr ⟨rfl, _, rfl, .of ⟨rfl, rfl, id, id, fun i hi j hj => ?_⟩⟩, trivial⟩)) ?_
  · rw [hni, hki]
  · rw [hni]
  · simp [newC, hn]; omega
  · intro i hi j hj
    have hi' : i < n := by simpa [newC] using hi
    rw [show (newC n h).frames.getD i default = _ from newC_get hi']
    rcases (show j = 0 ∨ j = 1 ∨ j = 2 by omega) with rfl | rfl | rfl <;> exact CEq.refl _
  · rw [hni, hhi]; rfl
  · obtain rfl : j = 0 := Nat.lt_one_iff.1 hj
    exact cB (by simp)
  rintro Q hQ ⟨G, c⟩ ⟨hG, hT⟩
  simp only at hG hT
  have hcn : c.frames.length = n := hT.many
  have htl : (c.tou k).frames.length = n := (tou_len c k).trans hcn
  have hg := hT.tgoes
  have hwho : (c.tou k).who = ((c.tou k).at' : Int) := if_pos hg
  have hsw : (c.tou k).sw = (c.tou k).swept := if_pos hg
  have hswl : (c.tou k).swept.frames.length = n := (swept_n _).trans htl
  repeat' first
    | with_reducible refine NeedI.mk (fun h => h) ?_
    | with_reducible refine NeedI.mk (fun h => h.2) ?_
    | with_reducible refine NeedI.mk (fun h => h.1) ?_
    | with_reducible exact Done.mk
    | with_reducible refine Both.mk (fun _ => ?_) (fun _ => ?_)
    | with_reducible refine Both2.mk (fun _ => ?_) ?_
    | with_reducible refine Need.mk (by first | omega | with_reducible exact CEq.refl _ | (intro _; omega) | (simp only [decide_eq_true_eq, decide_eq_false_iff_not, Bool.or_eq_true, Bool.and_eq_true, Bool.or_eq_false_iff, Int.toNat_natCast, addN_eq, rng] at *; omega) | (intro _; simp only [decide_eq_true_eq, decide_eq_false_iff_not, Bool.or_eq_true, Bool.and_eq_true, Bool.or_eq_false_iff, Int.toNat_natCast, addN_eq, rng] at *; omega)) ?_
    | (fail_if_success with_reducible refine LoopVC.mk ?_
       fail_if_success with_reducible refine Need.mk ?_ ?_
       fail_if_success with_reducible refine CallVC.mk ?_
       fail_if_success with_reducible refine LoopEnd.mk ?_
       fail_if_success with_reducible refine Out.mk ?_
       fail_if_success with_reducible show False
       fail_if_success with_reducible refine NeedI.mk ?_ ?_
       conv => whnf)
  · rename_i h3
    simp only [decide_eq_true_eq] at h3
    have hG1 : G.length + 1 < n := by omega
    obtain ⟨a1, a2, a3⟩ := hT.tat hG1
    refine CallVC.mk' (fun _ => touch_ok K c k (by omega)) (fun _ => .cons ((.many fun j hj => by (rcases (show j = 0 ∨ j = 1 by omega) with rfl | rfl <;> exact CEq.refl _))) (.cons (.one (CEq.refl _)) .nil)) ?_
    repeat' first
      | with_reducible refine NeedI.mk (fun h => h) ?_
      | with_reducible refine NeedI.mk (fun h => h.2) ?_
      | with_reducible refine NeedI.mk (fun h => h.1) ?_
      | with_reducible exact Done.mk
      | with_reducible refine Both.mk (fun _ => ?_) (fun _ => ?_)
      | with_reducible refine Both2.mk (fun _ => ?_) ?_
      | with_reducible refine Need.mk (by first | omega | with_reducible exact CEq.refl _ | (intro _; omega) | (simp only [decide_eq_true_eq, decide_eq_false_iff_not, Bool.or_eq_true, Bool.and_eq_true, Bool.or_eq_false_iff, Int.toNat_natCast, addN_eq, rng] at *; omega) | (intro _; simp only [decide_eq_true_eq, decide_eq_false_iff_not, Bool.or_eq_true, Bool.and_eq_true, Bool.or_eq_false_iff, Int.toNat_natCast, addN_eq, rng] at *; omega)) ?_
      | (fail_if_success with_reducible refine LoopVC.mk ?_
         fail_if_success with_reducible refine Need.mk ?_ ?_
         fail_if_success with_reducible refine CallVC.mk ?_
         fail_if_success with_reducible refine LoopEnd.mk ?_
         fail_if_success with_reducible refine Out.mk ?_
         fail_if_success with_reducible show False
         fail_if_success with_reducible refine NeedI.mk ?_ ?_
         conv => whnf)
    refine CallVC.mk' (fun _ => sweep_ok K (c.tou k) (by omega)) (fun _ => .cons ((.many fun j hj => by (rcases (show j = 0 ∨ j = 1 by omega) with rfl | rfl <;> exact CEq.refl _))) .nil) ?_
    rw [hwho, hsw, decide_eq_true hg]
    repeat' first
      | with_reducible refine NeedI.mk (fun h => h) ?_
      | with_reducible refine NeedI.mk (fun h => h.2) ?_
      | with_reducible refine NeedI.mk (fun h => h.1) ?_
      | with_reducible exact Done.mk
      | with_reducible refine Both.mk (fun _ => ?_) (fun _ => ?_)
      | with_reducible refine Both2.mk (fun _ => ?_) ?_
      | with_reducible refine Need.mk (by first | omega | with_reducible exact CEq.refl _ | (intro _; omega) | (simp only [decide_eq_true_eq, decide_eq_false_iff_not, Bool.or_eq_true, Bool.and_eq_true, Bool.or_eq_false_iff, Int.toNat_natCast, addN_eq, rng] at *; omega) | (intro _; simp only [decide_eq_true_eq, decide_eq_false_iff_not, Bool.or_eq_true, Bool.and_eq_true, Bool.or_eq_false_iff, Int.toNat_natCast, addN_eq, rng] at *; omega)) ?_
      | (fail_if_success with_reducible refine LoopVC.mk ?_
         fail_if_success with_reducible refine Need.mk ?_ ?_
         fail_if_success with_reducible refine CallVC.mk ?_
         fail_if_success with_reducible refine LoopEnd.mk ?_
         fail_if_success with_reducible refine Out.mk ?_
         fail_if_success with_reducible show False
         fail_if_success with_reducible refine NeedI.mk ?_ ?_
         conv => whnf)
    · rename_i h5
      exfalso
      simp only [Bool.or_eq_true, Bool.and_eq_true, decide_eq_true_eq, Bool.not_eq_true', decide_eq_false_iff_not, Int.toNat_natCast] at h5
      rcases h5 with ((((h5 | h5) | h5) | h5) | h5) | h5
      · cases h5
      · omega
      · omega
      · omega
      · exact a2 h5
      · omega
    · repeat' first
        | with_reducible refine NeedI.mk (fun h => h) ?_
        | with_reducible refine NeedI.mk (fun h => h.2) ?_
        | with_reducible refine NeedI.mk (fun h => h.1) ?_
        | with_reducible exact Done.mk
        | with_reducible refine Both.mk (fun _ => ?_) (fun _ => ?_)
        | with_reducible refine Both2.mk (fun _ => ?_) ?_
        | with_reducible refine Need.mk (by first | exact ⟨rfl, rfl⟩ | (simp only [rng]; omega) | (simp only [Nat.zero_add]; omega) | (simp only [Nat.zero_add, Int.toNat_natCast, addN_eq]; omega)) ?_
        | (fail_if_success with_reducible refine LoopVC.mk ?_
           fail_if_success with_reducible refine Need.mk ?_ ?_
           fail_if_success with_reducible refine CallVC.mk ?_
           fail_if_success with_reducible refine LoopEnd.mk ?_
           fail_if_success with_reducible refine Out.mk ?_
           fail_if_success with_reducible show False
           fail_if_success with_reducible refine NeedI.mk ?_ ?_
           conv => whnf)
      refine LoopEnd.mk ⟨((c.tou k).at' :: G, pin1 (c.tou k).swept (c.tou k).at'), ⟨by show G.length + 1 + 1 ≤ n; omega, hT.next hG1⟩, by show n - (G.length + 1) < n - G.length; omega,
        (Le.frz 74 _ rfl).trans (Le.ofN [] ⟨.inl rfl, .inl rfl, .inl ⟨rfl, rfl, rfl⟩, .inl ⟨rfl, rfl, rfl, rfl, rfl⟩, .inl rfl, .inl (cI (by simp)), trivial⟩
          ⟨.inr ⟨rfl, _, rfl, .var2 (.frz rfl rfl rfl rfl ?_ rfl rfl (CEq.list ?_ ?_)) (.inl rfl)⟩, .inr ⟨rfl, _, rfl, .of ⟨rfl, rfl, id, id, fun i hi j hj => ?_⟩⟩, trivial⟩)⟩
      · exact Nat.le_of_eq (Nat.zero_add _)
      · show 0 + (c.tou k).swept.frames.length = _
        simp [pin1]
      · intro i hi j hj
        have hi' : i < n := by simp only [pin1, List.length_set] at hi; omega
        refine upd_pins hswl.symm rfl (fun i hi j hj => ?_) i hi' j hj
        exact appC_zero i hi j hj
      · obtain rfl : j = 0 := Nat.lt_one_iff.1 hj
        show SubV _ (updC (α := AV) (fun i _ => .c (.bool (decide (i ∈ G)))) ((c.tou k).at' : Int).toNat 0 (.c (.bool true)) i 0) (.c (.bool (decide (i ∈ (c.tou k).at' :: G))))
        rw [updC_at]
        by_cases he : i = (c.tou k).at'
        · rw [if_pos ⟨by simp [he], rfl⟩]
          exact cB (by simp [he])
        · rw [if_neg (by simp [he])]
          exact cB (by simp [he])
  · refine Out.mk (hQ _ _ ?_)
    rename_i h3
    simp only [decide_eq_false_iff_not] at h3
    have hla := hT.last (by omega)
    repeat' first
      | with_reducible refine NeedI.mk (fun h => h) ?_
      | with_reducible refine NeedI.mk (fun h => h.2) ?_
      | with_reducible refine NeedI.mk (fun h => h.1) ?_
      | with_reducible exact Done.mk
      | with_reducible refine Both.mk (fun _ => ?_) (fun _ => ?_)
      | with_reducible refine Both2.mk (fun _ => ?_) ?_
      | with_reducible refine Need.mk (by first | omega | with_reducible exact CEq.refl _ | (intro _; omega) | (simp only [decide_eq_true_eq, decide_eq_false_iff_not, Bool.or_eq_true, Bool.and_eq_true, Bool.or_eq_false_iff, Int.toNat_natCast, addN_eq, rng] at *; omega) | (intro _; simp only [decide_eq_true_eq, decide_eq_false_iff_not, Bool.or_eq_true, Bool.and_eq_true, Bool.or_eq_false_iff, Int.toNat_natCast, addN_eq, rng] at *; omega)) ?_
      | (fail_if_success with_reducible refine LoopVC.mk ?_
         fail_if_success with_reducible refine Need.mk ?_ ?_
         fail_if_success with_reducible refine CallVC.mk ?_
         fail_if_success with_reducible refine LoopEnd.mk ?_
         fail_if_success with_reducible refine Out.mk ?_
         fail_if_success with_reducible show False
         fail_if_success with_reducible refine NeedI.mk ?_ ?_
         conv => whnf)
    refine CallVC.mk' (fun _ => touch_ok K c k (by omega)) (fun _ => .cons ((.many fun j hj => by (rcases (show j = 0 ∨ j = 1 by omega) with rfl | rfl <;> exact CEq.refl _))) (.cons (.one (CEq.refl _)) .nil)) ?_
    repeat' first
      | with_reducible refine NeedI.mk (fun h => h) ?_
      | with_reducible refine NeedI.mk (fun h => h.2) ?_
      | with_reducible refine NeedI.mk (fun h => h.1) ?_
      | with_reducible exact Done.mk
      | with_reducible refine Both.mk (fun _ => ?_) (fun _ => ?_)
      | with_reducible refine Both2.mk (fun _ => ?_) ?_
      | with_reducible refine Need.mk (by first | omega | with_reducible exact CEq.refl _ | (intro _; omega) | (simp only [decide_eq_true_eq, decide_eq_false_iff_not, Bool.or_eq_true, Bool.and_eq_true, Bool.or_eq_false_iff, Int.toNat_natCast, addN_eq, rng] at *; omega) | (intro _; simp only [decide_eq_true_eq, decide_eq_false_iff_not, Bool.or_eq_true, Bool.and_eq_true, Bool.or_eq_false_iff, Int.toNat_natCast, addN_eq, rng] at *; omega)) ?_
      | (fail_if_success with_reducible refine LoopVC.mk ?_
         fail_if_success with_reducible refine Need.mk ?_ ?_
         fail_if_success with_reducible refine CallVC.mk ?_
         fail_if_success with_reducible refine LoopEnd.mk ?_
         fail_if_success with_reducible refine Out.mk ?_
         fail_if_success with_reducible show False
         fail_if_success with_reducible refine NeedI.mk ?_ ?_
         conv => whnf)
    refine CallVC.mk' (fun _ => sweep_ok K (c.tou k) (by omega)) (fun _ => .cons ((.many fun j hj => by (rcases (show j = 0 ∨ j = 1 by omega) with rfl | rfl <;> exact CEq.refl _))) .nil) ?_
    rw [hwho, hsw, decide_eq_true hg, hla]
    repeat' first
      | with_reducible refine NeedI.mk (fun h => h) ?_
      | with_reducible refine NeedI.mk (fun h => h.2) ?_
      | with_reducible refine NeedI.mk (fun h => h.1) ?_
      | with_reducible exact Done.mk
      | with_reducible refine Both.mk (fun _ => ?_) (fun _ => ?_)
      | with_reducible refine Both2.mk (fun _ => ?_) ?_
      | with_reducible refine Need.mk (by first | omega | with_reducible exact CEq.refl _ | (intro _; omega) | (simp only [decide_eq_true_eq, decide_eq_false_iff_not, Bool.or_eq_true, Bool.and_eq_true, Bool.or_eq_false_iff, Int.toNat_natCast, addN_eq, rng] at *; omega) | (intro _; simp only [decide_eq_true_eq, decide_eq_false_iff_not, Bool.or_eq_true, Bool.and_eq_true, Bool.or_eq_false_iff, Int.toNat_natCast, addN_eq, rng] at *; omega)) ?_
      | (fail_if_success with_reducible refine LoopVC.mk ?_
         fail_if_success with_reducible refine Need.mk ?_ ?_
         fail_if_success with_reducible refine CallVC.mk ?_
         fail_if_success with_reducible refine LoopEnd.mk ?_
         fail_if_success with_reducible refine Out.mk ?_
         fail_if_success with_reducible show False
         fail_if_success with_reducible refine NeedI.mk ?_ ?_
         conv => whnf)
    refine CallVC.mk' (fun _ => awake_ok K L.awake) (fun _ => .nil) ?_
    repeat' first
      | with_reducible refine NeedI.mk (fun h => h) ?_
      | with_reducible refine NeedI.mk (fun h => h.2) ?_
      | with_reducible refine NeedI.mk (fun h => h.1) ?_
      | with_reducible exact Done.mk
      | with_reducible refine Both.mk (fun _ => ?_) (fun _ => ?_)
      | with_reducible refine Both2.mk (fun _ => ?_) ?_
      | with_reducible refine Need.mk (by first | omega | with_reducible exact CEq.refl _ | (intro _; omega) | (simp only [decide_eq_true_eq, decide_eq_false_iff_not, Bool.or_eq_true, Bool.and_eq_true, Bool.or_eq_false_iff, Int.toNat_natCast, addN_eq, rng] at *; omega) | (intro _; simp only [decide_eq_true_eq, decide_eq_false_iff_not, Bool.or_eq_true, Bool.and_eq_true, Bool.or_eq_false_iff, Int.toNat_natCast, addN_eq, rng] at *; omega)) ?_
      | (fail_if_success with_reducible refine LoopVC.mk ?_
         fail_if_success with_reducible refine Need.mk ?_ ?_
         fail_if_success with_reducible refine CallVC.mk ?_
         fail_if_success with_reducible refine LoopEnd.mk ?_
         fail_if_success with_reducible refine Out.mk ?_
         fail_if_success with_reducible show False
         fail_if_success with_reducible refine NeedI.mk ?_ ?_
         conv => whnf)
    refine Need.mk (eB (by simp)) ?_
    repeat' first
      | with_reducible refine NeedI.mk (fun h => h) ?_
      | with_reducible refine NeedI.mk (fun h => h.2) ?_
      | with_reducible refine NeedI.mk (fun h => h.1) ?_
      | with_reducible exact Done.mk
      | with_reducible refine Both.mk (fun _ => ?_) (fun _ => ?_)
      | with_reducible refine Both2.mk (fun _ => ?_) ?_
      | with_reducible refine Need.mk (by first | omega | with_reducible exact CEq.refl _ | (intro _; omega) | (simp only [decide_eq_true_eq, decide_eq_false_iff_not, Bool.or_eq_true, Bool.and_eq_true, Bool.or_eq_false_iff, Int.toNat_natCast, addN_eq, rng] at *; omega) | (intro _; simp only [decide_eq_true_eq, decide_eq_false_iff_not, Bool.or_eq_true, Bool.and_eq_true, Bool.or_eq_false_iff, Int.toNat_natCast, addN_eq, rng] at *; omega)) ?_
      | (fail_if_success with_reducible refine LoopVC.mk ?_
         fail_if_success with_reducible refine Need.mk ?_ ?_
         fail_if_success with_reducible refine CallVC.mk ?_
         fail_if_success with_reducible refine LoopEnd.mk ?_
         fail_if_success with_reducible refine Out.mk ?_
         fail_if_success with_reducible show False
         fail_if_success with_reducible refine NeedI.mk ?_ ?_
         conv => whnf)
end
end Lk.S09
