/-
  Chapter 9: ClockRound.
-/
import Derived.Test.YtdpghfcbkcjecaaW09n
namespace Lk.S09
open Go Lk Lk.C

/-- The frames of a round. -/
def rndF (used : List Bool) (i : Nat) : Frm := ⟨1 + (i : Int), 0, used.getD i false⟩
def rndL (used : List Bool) (n : Nat) : List Frm := (List.range n).map (rndF used)
theorem rndL_len (used : List Bool) (n : Nat) : (rndL used n).length = n := by simp [rndL]
theorem rndL_get {used : List Bool} {n i : Nat} (hi : i < n) : (rndL used n).getD i default = rndF used i := by
  unfold rndL
  rw [List.getD_eq_getElem?_getD, List.getElem?_map, List.getElem?_range hi]
  rfl
theorem rndL_succ (used : List Bool) (n : Nat) : rndL used (n + 1) = rndL used n ++ [rndF used n] := by
  simp [rndL, List.range_succ]

def rndC (used : List Bool) (hand : Nat) : Clk := ⟨rndL used used.length, ((hand % used.length : Nat) : Int)⟩

theorem rnd_start {used : List Bool} (h0 : used ≠ []) (h8 : used.length ≤ 8) (hand : Nat) : Rnd used.length (hand % used.length) 0 (rndC used hand) := by
  have hn : 0 < used.length := List.length_pos_iff.2 h0
  have hm := Nat.mod_lt hand hn
  have hl : (rndC used hand).frames.length = used.length := rndL_len _ _
  refine ⟨⟨by rw [hl]; exact hn, by rw [hl]; exact h8, by show 0 ≤ ((hand % used.length : Nat) : Int); omega, by rw [hl]; show ((hand % used.length : Nat) : Int) < _; omega, ?_⟩, hl, ?_, fun i hi => ?_, fun i hi hd => absurd hd (Nat.not_lt_zero _)⟩
  · refine all_of_getD fun i hi => ?_
    rw [hl] at hi
    rw [show (rndC used hand).frames.getD i default = rndF used i from rndL_get hi]
    show 0 ≤ 1 + (i : Int) ∧ 1 + (i : Int) ≤ 16 ∧ (0 : Int) ≤ 0 ∧ (0 : Int) ≤ 2147483647
    omega
  · show ((hand % used.length : Nat) : Int).toNat = _
    rw [Int.toNat_natCast, Nat.add_zero, Nat.mod_mod]
  · show decide (((rndC used hand).frames.getD i default).pins = 0) = true
    rw [show (rndC used hand).frames.getD i default = rndF used i from rndL_get hi]
    rfl

section
variable {P : Program} {F : Nat → Nat}

set_option maxHeartbeats 8000000 in
set_option maxRecDepth 100000 in
theorem clockRound_law (K : KClock P F) (L : KLaw P F) (hk : law09_ClockRound_k P F) (used : List Bool) (hand : UInt8) (hl : used.length ≤ 9223372036854775807) :
    FnOk P (F 10) [.one (slL 1 (fun b _ => .bool b) used), .one (.int .u8 (hand.toNat : Int))] [.one (.im (.bool true))] := by
  have hb := hand.toNat_lt
  refine fnOk K.m hk ?_
  repeat' first
    | with_reducible refine NeedI.mk (fun h => h) ?_
    | with_reducible refine NeedI.mk (fun h => h.2) ?_
    | with_reducible refine NeedI.mk (fun h => h.1) ?_
    | with_reducible exact Done.mk
    | with_reducible refine Both.mk (fun _ => ?_) (fun _ => ?_)
    | with_reducible refine Both2.mk (fun _ => ?_) ?_
    | with_reducible refine Need.mk (by with_reducible exact Nat.le_of_eq (Nat.zero_add _)) ?_
    | (fail_if_success with_reducible refine LoopVC.mk ?_
       fail_if_success with_reducible refine Need.mk ?_ ?_
       fail_if_success with_reducible refine CallVC.mk ?_
       fail_if_success with_reducible refine LoopEnd.mk ?_
       fail_if_success with_reducible refine Out.mk ?_
       fail_if_success with_reducible show False
       fail_if_success with_reducible refine NeedI.mk ?_ ?_
       conv => whnf)
  · refine CallVC.mk' (fun _ => awake_ok K L.awake) (fun _ => .nil) ?_
    repeat' first
      | with_reducible refine NeedI.mk (fun h => h) ?_
      | with_reducible refine NeedI.mk (fun h => h.2) ?_
      | with_reducible refine NeedI.mk (fun h => h.1) ?_
      | with_reducible exact Done.mk
      | with_reducible refine Both.mk (fun _ => ?_) (fun _ => ?_)
      | with_reducible refine Both2.mk (fun _ => ?_) ?_
      | with_reducible refine Need.mk (by with_reducible exact CEq.refl _) ?_
      | (fail_if_success with_reducible refine LoopVC.mk ?_
         fail_if_success with_reducible refine Need.mk ?_ ?_
         fail_if_success with_reducible refine CallVC.mk ?_
         fail_if_success with_reducible refine LoopEnd.mk ?_
         fail_if_success with_reducible refine Out.mk ?_
         fail_if_success with_reducible show False
         fail_if_success with_reducible refine NeedI.mk ?_ ?_
         conv => whnf)
  rename_i h
  simp only [Bool.or_eq_false_iff, decide_eq_false_iff_not] at h
  have h8 : used.length ≤ 8 := by omega
  have hn : 0 < used.length := by omega
  have h0 : used ≠ [] := List.ne_nil_of_length_pos hn
  have hm := Nat.mod_lt hand.toNat hn
  have hcast : (hand.toNat : Int) % (used.length : Int) = ((hand.toNat % used.length : Nat) : Int) := by push_cast; rfl
  repeat' first
    | with_reducible refine NeedI.mk (fun h => h) ?_
    | with_reducible refine NeedI.mk (fun h => h.2) ?_
    | with_reducible refine NeedI.mk (fun h => h.1) ?_
    | with_reducible exact Done.mk
    | with_reducible refine Both.mk (fun _ => ?_) (fun _ => ?_)
    | with_reducible refine Both2.mk (fun _ => ?_) ?_
    | with_reducible refine Need.mk (by first | omega | with_reducible exact CEq.refl _ | (intro _; omega) | (simp only [decide_eq_true_eq, decide_eq_false_iff_not, Bool.or_eq_true, Bool.and_eq_true, Bool.or_eq_false_iff, Int.toNat_natCast, addN_eq, rng] at *; omega) | (intro _; simp only [decide_eq_true_eq, decide_eq_false_iff_not, Bool.or_eq_true, Bool.and_eq_true, Bool.or_eq_false_iff, Int.toNat_natCast, addN_eq, rng] at *; omega)) ?_
    | (fail_if_success with_reducible refine LoopVC.mk ?_
       fail_if_success with_reducible refine Need.mk ?_ ?_
       fail_if_success with_reducible refine CallVC.mk ?_
       fail_if_success with_reducible refine LoopEnd.mk ?_
       fail_if_success with_reducible refine Out.mk ?_
       fail_if_success with_reducible show False
       fail_if_success with_reducible refine NeedI.mk ?_ ?_
       conv => whnf)
  refine LoopVC.inv (fun i : Nat => i ≤ used.length) (fun i => stL [(0, .c (slL 1 (fun b _ => .bool b) used)), (5, .va 5 0 0), (28, .c (slL 1 (fun b _ => .bool b) used)), (29, .c (.int .i64 used.length)), (30, .c (.int .i64 i))]
      [(5, vE [.os 42 0 3 0 i, .c (.int .i64 ((hand.toNat % used.length : Nat) : Int))]), (42, ⟨3, i, .dat fun r j => frmE ((rndL used i).getD r default) j, false, true⟩)])
    (fun i => used.length - i) 0 (Nat.zero_le _) (Le.ofN [42] ⟨.inl (CEq.refl _), .inl ⟨rfl, rfl, rfl⟩, .inl (CEq.refl _), .inl rfl, .inl rfl, trivial⟩
      ⟨.inr ⟨rfl, _, rfl, .var2 (.inr ⟨_, _, _, rfl, rfl, rfl⟩) (.inl (cI hcast))⟩, .inl ⟨rfl, rfl⟩, trivial⟩) ?_
  rintro Q hQ i hi
  repeat' first
    | with_reducible refine NeedI.mk (fun h => h) ?_
    | with_reducible refine NeedI.mk (fun h => h.2) ?_
    | with_reducible refine NeedI.mk (fun h => h.1) ?_
    | with_reducible exact Done.mk
    | with_reducible refine Both.mk (fun _ => ?_) (fun _ => ?_)
    | with_reducible refine Both2.mk (fun _ => ?_) ?_
    | with_reducible refine Need.mk (by first | exact ⟨rfl, rfl⟩ | (simp only [decide_eq_true_eq, decide_eq_false_iff_not, rng] at *; omega)) ?_
    | (fail_if_success with_reducible refine LoopVC.mk ?_
       fail_if_success with_reducible refine Need.mk ?_ ?_
       fail_if_success with_reducible refine CallVC.mk ?_
       fail_if_success with_reducible refine LoopEnd.mk ?_
       fail_if_success with_reducible refine Out.mk ?_
       fail_if_success with_reducible show False
       fail_if_success with_reducible refine NeedI.mk ?_ ?_
       conv => whnf)
  · rename_i h3
    simp only [decide_eq_true_eq] at h3
    have hilt : i < used.length := by omega
    refine LoopEnd.mk ⟨i + 1, by omega, by omega, Le.of ⟨CEq.refl _, ⟨rfl, rfl, rfl⟩, CEq.refl _, rfl, cI (by simp), trivial⟩
      ⟨⟨_, rfl, SubE.var2 ⟨rfl, rfl, rfl, rfl, rfl⟩ rfl⟩, ⟨_, rfl, SubE.dat ?_⟩, trivial⟩⟩
    show ∀ r, r < i + 1 → ∀ j, j < 3 → _
    intro r hr j hj
    rw [rndL_succ]
    refine appC_list (rndL_len _ _).symm (fun r hr j hj => CEq.refl _) (fun j hj => ?_) r (by simp [rndL_len]; omega) j hj
    rcases (show j = 0 ∨ j = 1 ∨ j = 2 by omega) with rfl | rfl | rfl <;> exact CEq.refl _
  · rename_i h3
    simp only [decide_eq_false_iff_not] at h3
    have hie : i = used.length := by omega
    subst hie
    refine Out.mk (hQ _ _ ?_)
    repeat' first
      | with_reducible refine NeedI.mk (fun h => h) ?_
      | with_reducible refine NeedI.mk (fun h => h.2) ?_
      | with_reducible refine NeedI.mk (fun h => h.1) ?_
      | with_reducible exact Done.mk
      | with_reducible refine Both.mk (fun _ => ?_) (fun _ => ?_)
      | with_reducible refine Both2.mk (fun _ => ?_) ?_
      | with_reducible refine Need.mk (by first | omega | with_reducible exact CEq.refl _ | (intro _; omega) | (simp only [decide_eq_true_eq, decide_eq_false_iff_not, Bool.or_eq_true, Bool.and_eq_true, Bool.or_eq_false_iff, Int.toNat_natCast, addN_eq, rng] at *; omega) | (intro _; simp only [decide_eq_true_eq, decide_eq_false_iff_not, Bool.or_eq_true, Bool.and_eq_true, Bool.or_eq_false_iff, Int.toNat_natCast, addN_eq, rng] at *; omega)) ?_
      | (fail_if_success with_reducible refine LoopVC.mk ?_
         fail_if_success with_reducible refine Need.mk ?_ ?_
         fail_if_success with_reducible refine CallVC.mk ?_
         fail_if_success with_reducible refine LoopEnd.mk ?_
         fail_if_success with_reducible refine Out.mk ?_
         fail_if_success with_reducible show False
         fail_if_success with_reducible refine NeedI.mk ?_ ?_
         conv => whnf)
    refine LoopVC.inv (fun x : Nat × Clk × Int => x.1 ≤ 2 * used.length ∧ (∃ A, x.1 ≤ A ∧ Rnd used.length (hand.toNat % used.length) A x.2.1) ∧ -1 ≤ x.2.2 ∧ x.2.2 < used.length ∧ (0 < x.1 → 0 ≤ x.2.2 ∧ x.2.1.hand = (x.2.2 + 1) % (used.length : Int)))
      (fun x => stL [(0, .c (slL 1 (fun b _ => .bool b) used)), (5, .va 5 0 0), (8, .c (.int .i64 x.2.2)), (47, .c (.int .i64 (2 * used.length))), (48, .c (.int .i64 x.1))] [(5, vE [.c (slL 3 frmE x.2.1.frames), .c (.int .i64 x.2.1.hand)])])
      (fun x => 2 * used.length - x.1) (0, rndC used hand.toNat, -1) ⟨Nat.zero_le _, ⟨0, Nat.zero_le _, rnd_start h0 h8 _⟩, by show (-1 : Int) ≤ -1; omega, by show (-1 : Int) < _; omega, fun h => absurd h (Nat.lt_irrefl 0)⟩
      ((Le.frz 42 _ rfl).trans (Le.ofN [] ⟨.inl (CEq.refl _), .inl ⟨rfl, rfl, rfl⟩, .inl rfl, .inl rfl, .inl rfl, trivial⟩
        ⟨.inr ⟨rfl, _, rfl, .var2 (.frz rfl rfl rfl rfl (Nat.le_of_eq (Nat.zero_add _)) rfl rfl (CEq.list (rndL_len _ _).symm fun i _ j _ => CEq.refl _)) (.inl rfl)⟩, trivial⟩)) ?_
    rintro Q2 hQ2 ⟨t, c, last⟩ ⟨ht, ⟨A, hA, hR⟩, hl1, hl2, hl3⟩
    simp only at ht hA hR hl1 hl2 hl3
    have hcn : c.frames.length = used.length := hR.many
    have hg := hR.goes
    have hat : c.at' < used.length := by have := at_lt hR.r; rw [hR.many] at this; exact this
    have hwho : c.who = (c.at' : Int) := if_pos hg
    have hsw : c.sw = c.swept := if_pos hg
    repeat' first
      | with_reducible refine NeedI.mk (fun h => h) ?_
      | with_reducible refine NeedI.mk (fun h => h.2) ?_
      | with_reducible refine NeedI.mk (fun h => h.1) ?_
      | with_reducible exact Done.mk
      | with_reducible refine Both.mk (fun _ => ?_) (fun _ => ?_)
      | with_reducible refine Both2.mk (fun _ => ?_) ?_
      | with_reducible refine Need.mk (by first | omega | with_reducible exact CEq.refl _ | (intro _; omega) | (simp only [decide_eq_true_eq, decide_eq_false_iff_not, Bool.or_eq_true, Bool.and_eq_true, Bool.or_eq_false_iff, Int.toNat_natCast, addN_eq, rng] at *; omega) | (intro _; simp only [decide_eq_true_eq, decide_eq_false_iff_not, Bool.or_eq_true, Bool.and_eq_true, Bool.or_eq_false_iff, Int.toNat_natCast, addN_eq, rng] at *; omega)) ?_
      | (fail_if_success with_reducible refine LoopVC.mk ?_
         fail_if_success with_reducible refine Need.mk ?_ ?_
         fail_if_success with_reducible refine CallVC.mk ?_
         fail_if_success with_reducible refine LoopEnd.mk ?_
         fail_if_success with_reducible refine Out.mk ?_
         fail_if_success with_reducible show False
         fail_if_success with_reducible refine NeedI.mk ?_ ?_
         conv => whnf)
    · rename_i h4
      simp only [decide_eq_true_eq] at h4
      refine CallVC.mk' (fun _ => sweep_ok K c (by omega)) (fun _ => .cons ((.many fun j hj => by (rcases (show j = 0 ∨ j = 1 by omega) with rfl | rfl <;> exact CEq.refl _))) .nil) ?_
      rw [hwho, hsw, decide_eq_true hg]
      repeat' first
        | with_reducible refine NeedI.mk (fun h => h) ?_
        | with_reducible refine NeedI.mk (fun h => h.2) ?_
        | with_reducible refine NeedI.mk (fun h => h.1) ?_
        | with_reducible exact Done.mk
        | with_reducible refine Both.mk (fun _ => ?_) (fun _ => ?_)
        | with_reducible refine Both2.mk (fun _ => ?_) ?_
        | with_reducible refine Need.mk (by first | omega | with_reducible exact CEq.refl _ | (intro _; omega) | (simp only [decide_eq_true_eq, decide_eq_false_iff_not, Bool.or_eq_true, Bool.and_eq_true, Bool.or_eq_false_iff, Int.toNat_natCast, addN_eq, rng] at *; omega) | (intro _; simp only [decide_eq_true_eq, decide_eq_false_iff_not, Bool.or_eq_true, Bool.and_eq_true, Bool.or_eq_false_iff, Int.toNat_natCast, addN_eq, rng] at *; omega)) ?_
        | (fail_if_success with_reducible refine LoopVC.mk ?_
           fail_if_success with_reducible refine Need.mk ?_ ?_
           fail_if_success with_reducible refine CallVC.mk ?_
           fail_if_success with_reducible refine LoopEnd.mk ?_
           fail_if_success with_reducible refine Out.mk ?_
           fail_if_success with_reducible show False
           fail_if_success with_reducible refine NeedI.mk ?_ ?_
           conv => whnf)
      · rename_i h5
        exfalso
        simp only [Bool.or_eq_true, Bool.and_eq_true, decide_eq_true_eq, Bool.not_eq_true', decide_eq_false_iff_not] at h5
        rcases h5 with ((h5 | h5) | h5) | ⟨h5, h6⟩
        · cases h5
        · omega
        · omega
        · apply h6
          have h7 : c.stop = 0 := hR.turn hm (by omega)
          rw [at_hand hR.r h7]
          exact (hl3 (by omega)).2
      · refine LoopEnd.mk ⟨(t + 1, c.swept, (c.at' : Int)), ⟨by show t + 1 ≤ _; omega, ⟨A + c.stop + 1, by show t + 1 ≤ _; omega, hR.next hm⟩, by show -1 ≤ (c.at' : Int); omega, by show (c.at' : Int) < _; omega, fun _ => ⟨by show 0 ≤ (c.at' : Int); omega, ?_⟩⟩, by show _ - (t + 1) < _ - t; omega,
          Le.of ⟨CEq.refl _, ⟨rfl, rfl, rfl⟩, rfl, rfl, cI (by simp), trivial⟩ ⟨⟨_, rfl, SubE.var2 (CEq.refl _) rfl⟩, trivial⟩⟩
        show c.swept.hand = _
        rw [swept_hand, hR.many]
    · refine Out.mk (hQ2 _ _ ?_)
      repeat' first
        | with_reducible refine NeedI.mk (fun h => h) ?_
        | with_reducible refine NeedI.mk (fun h => h.2) ?_
        | with_reducible refine NeedI.mk (fun h => h.1) ?_
        | with_reducible exact Done.mk
        | with_reducible refine Both.mk (fun _ => ?_) (fun _ => ?_)
        | with_reducible refine Both2.mk (fun _ => ?_) ?_
        | with_reducible refine Need.mk (by first | omega | with_reducible exact CEq.refl _ | (intro _; omega) | (simp only [decide_eq_true_eq, decide_eq_false_iff_not, Bool.or_eq_true, Bool.and_eq_true, Bool.or_eq_false_iff, Int.toNat_natCast, addN_eq, rng] at *; omega) | (intro _; simp only [decide_eq_true_eq, decide_eq_false_iff_not, Bool.or_eq_true, Bool.and_eq_true, Bool.or_eq_false_iff, Int.toNat_natCast, addN_eq, rng] at *; omega)) ?_
        | (fail_if_success with_reducible refine LoopVC.mk ?_
           fail_if_success with_reducible refine Need.mk ?_ ?_
           fail_if_success with_reducible refine CallVC.mk ?_
           fail_if_success with_reducible refine LoopEnd.mk ?_
           fail_if_success with_reducible refine Out.mk ?_
           fail_if_success with_reducible show False
           fail_if_success with_reducible refine NeedI.mk ?_ ?_
           conv => whnf)
      refine CallVC.mk' (fun _ => awake_ok K L.awake) (fun _ => .nil) ?_
      repeat' first
        | with_reducible refine NeedI.mk (fun h => h) ?_
        | with_reducible refine NeedI.mk (fun h => h.2) ?_
        | with_reducible refine NeedI.mk (fun h => h.1) ?_
        | with_reducible exact Done.mk
        | with_reducible refine Both.mk (fun _ => ?_) (fun _ => ?_)
        | with_reducible refine Both2.mk (fun _ => ?_) ?_
        | with_reducible refine Need.mk (by with_reducible exact CEq.refl _) ?_
        | (fail_if_success with_reducible refine LoopVC.mk ?_
           fail_if_success with_reducible refine Need.mk ?_ ?_
           fail_if_success with_reducible refine CallVC.mk ?_
           fail_if_success with_reducible refine LoopEnd.mk ?_
           fail_if_success with_reducible refine Out.mk ?_
           fail_if_success with_reducible show False
           fail_if_success with_reducible refine NeedI.mk ?_ ?_
           conv => whnf)
end
end Lk.S09
