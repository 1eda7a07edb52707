/-
  Chapter 9: ClockFair.
-/
import Derived.Test.YtdpghfcbkcjecaaW09g
namespace Lk.S09
open Go Lk Lk.C

def Clk.fresh (c : Clk) (i : Nat) : Bool := c.loose i && !(c.fr i).used

theorem any_iff' {c : Clk} (hr : right c) : c.any ↔ ∃ i, i < c.n ∧ c.loose i = true := by
  have hn : 0 < c.n := by have := hr.1; unfold Clk.n; omega
  have hh : c.h < c.n := by have := hr.2.2; unfold Clk.n Clk.h; omega
  unfold Clk.any Clk.k2
  rw [fstN_lt_iff]
  constructor
  · rintro ⟨k, hk, hp⟩
    exact ⟨_, posK_lt hn, hp⟩
  · rintro ⟨i, hi, hp⟩
    exact ⟨distK c.n c.h i, distK_lt hn, by rw [pos_dist hh hi]; exact hp⟩

theorem k1_iff {c : Clk} (hr : right c) : c.k1 < c.n ↔ ∃ i, i < c.n ∧ c.fresh i = true := by
  have hn : 0 < c.n := by have := hr.1; unfold Clk.n; omega
  have hh : c.h < c.n := by have := hr.2.2; unfold Clk.n Clk.h; omega
  unfold Clk.k1
  rw [fstN_lt_iff]
  constructor
  · rintro ⟨k, hk, hp⟩
    exact ⟨_, posK_lt hn, hp⟩
  · rintro ⟨i, hi, hp⟩
    exact ⟨distK c.n c.h i, distK_lt hn, by rw [pos_dist hh hi]; exact hp⟩

theorem at_lt {c : Clk} (hr : right c) : c.at' < c.n := posK_lt (by have := hr.1; unfold Clk.n; omega)

theorem at_loose {c : Clk} (hg : c.goes) : c.loose c.at' = true ∧ (c.fr c.at').used = true → ∀ i, i < c.n → c.fresh i = false := by
  rintro ⟨h1, h2⟩ i hi
  have hr := hg.1
  cases hf : c.fresh i with
  | false => rfl
  | true =>
    have hk : c.k1 < c.n := (k1_iff hr).2 ⟨i, hi, hf⟩
    have hs : c.stop = c.k1 := by unfold Clk.stop; rw [if_pos hk]
    have h3 := fstN_at (p := fun k => c.loose (posK c.n c.h k) && !(c.fr (posK c.n c.h k)).used) hk
    have h4 : posK c.n c.h (fstN (fun k => c.loose (posK c.n c.h k) && !(c.fr (posK c.n c.h k)).used) c.n) = c.at' := by
      unfold Clk.at'; rw [hs]; rfl
    rw [h4, h2] at h3
    simp at h3

theorem at_is_loose {c : Clk} (hg : c.goes) : c.loose c.at' = true := by
  have := stop_iff hg (Nat.le_refl _)
  simp only [decide_true, Bool.and_eq_true] at this
  exact this.1

theorem at_unused {c : Clk} (hg : c.goes) : ((c.frK c.stop).getD c.at' default).used = false := by
  have := stop_iff hg (Nat.le_refl _)
  simp only [decide_true, Bool.and_eq_true, Bool.not_eq_true'] at this
  exact this.2

section
variable {P : Program} {F : Nat → Nat}

set_option maxHeartbeats 8000000 in
set_option maxRecDepth 100000 in
theorem clockFair_law (K : KClock P F) (R : KRef P F) (L : KLaw P F) (hk : law09_ClockFair_k P F) (c : Clk) (hl : c.frames.length ≤ 9223372036854775807) :
    FnOk P (F 9) [.many 2 (clkE c)] [.one (.im (.bool true))] := by
  have hcl : c.copy.frames.length ≤ 40 := by
    unfold Clk.copy; split
    · assumption
    · simp
  refine fnOk K.m hk ?_
  repeat' first
    | with_reducible refine NeedI.mk (fun h => h) ?_
    | with_reducible refine NeedI.mk (fun h => h.2) ?_
    | with_reducible refine NeedI.mk (fun h => h.1) ?_
    | with_reducible exact Done.mk
    | with_reducible refine Both.mk (fun _ => ?_) (fun _ => ?_)
    | with_reducible refine Both2.mk (fun _ => ?_) ?_
    | with_reducible refine Need.mk (by with_reducible exact Nat.le_of_eq (Nat.zero_add _)) ?_
    | (fail_if_success with_reducible refine LoopVC.mk ?_
       fail_if_success with_reducible refine Need.mk ?_ ?_
       fail_if_success with_reducible refine CallVC.mk ?_
       fail_if_success with_reducible refine LoopEnd.mk ?_
       fail_if_success with_reducible refine Out.mk ?_
       fail_if_success with_reducible show False
       fail_if_success with_reducible refine NeedI.mk ?_ ?_
       conv => whnf)
  refine CallVC.mk' (fun _ => lawRef_ok K.m L.ref c hl) (fun _ => .cons ((.many fun j hj => by (rcases (show j = 0 ∨ j = 1 by omega) with rfl | rfl <;> exact CEq.refl _))) .nil) ?_
  repeat' first
    | with_reducible refine NeedI.mk (fun h => h) ?_
    | with_reducible refine NeedI.mk (fun h => h.2) ?_
    | with_reducible refine NeedI.mk (fun h => h.1) ?_
    | with_reducible exact Done.mk
    | with_reducible refine Both.mk (fun _ => ?_) (fun _ => ?_)
    | with_reducible refine Both2.mk (fun _ => ?_) ?_
    | with_reducible refine Need.mk (by with_reducible exact Nat.le_of_eq (Nat.zero_add _)) ?_
    | (fail_if_success with_reducible refine LoopVC.mk ?_
       fail_if_success with_reducible refine Need.mk ?_ ?_
       fail_if_success with_reducible refine CallVC.mk ?_
       fail_if_success with_reducible refine LoopEnd.mk ?_
       fail_if_success with_reducible refine Out.mk ?_
       fail_if_success with_reducible show False
       fail_if_success with_reducible refine NeedI.mk ?_ ?_
       conv => whnf)
  refine CallVC.mk' (fun _ => refRight_ok K.m R.right c.copy (by omega)) (fun _ => .cons ((.many fun j hj => by (rcases (show j = 0 ∨ j = 1 by omega) with rfl | rfl <;> exact CEq.refl _))) .nil) ?_
  repeat' first
    | with_reducible refine NeedI.mk (fun h => h) ?_
    | with_reducible refine NeedI.mk (fun h => h.2) ?_
    | with_reducible refine NeedI.mk (fun h => h.1) ?_
    | with_reducible exact Done.mk
    | with_reducible refine Both.mk (fun _ => ?_) (fun _ => ?_)
    | with_reducible refine Both2.mk (fun _ => ?_) ?_
    | with_reducible refine Need.mk (by with_reducible exact Nat.le_of_eq (Nat.zero_add _)) ?_
    | (fail_if_success with_reducible refine LoopVC.mk ?_
       fail_if_success with_reducible refine Need.mk ?_ ?_
       fail_if_success with_reducible refine CallVC.mk ?_
       fail_if_success with_reducible refine LoopEnd.mk ?_
       fail_if_success with_reducible refine Out.mk ?_
       fail_if_success with_reducible show False
       fail_if_success with_reducible refine NeedI.mk ?_ ?_
       conv => whnf)
  · refine CallVC.mk' (fun _ => awake_ok K L.awake) (fun _ => .nil) ?_
    repeat' first
      | with_reducible refine NeedI.mk (fun h => h) ?_
      | with_reducible refine NeedI.mk (fun h => h.2) ?_
      | with_reducible refine NeedI.mk (fun h => h.1) ?_
      | with_reducible exact Done.mk
      | with_reducible refine Both.mk (fun _ => ?_) (fun _ => ?_)
      | with_reducible refine Both2.mk (fun _ => ?_) ?_
      | with_reducible refine Need.mk (by with_reducible exact CEq.refl _) ?_
      | (fail_if_success with_reducible refine LoopVC.mk ?_
         fail_if_success with_reducible refine Need.mk ?_ ?_
         fail_if_success with_reducible refine CallVC.mk ?_
         fail_if_success with_reducible refine LoopEnd.mk ?_
         fail_if_success with_reducible refine Out.mk ?_
         fail_if_success with_reducible show False
         fail_if_success with_reducible refine NeedI.mk ?_ ?_
         conv => whnf)
  rename_i h
  have h40 : c.frames.length ≤ 40 := by simp only [Bool.or_eq_false_iff, Bool.not_eq_false', decide_eq_true_eq] at h; exact h.1
  rw [copy_eq h40] at h
  have hr : right c := by simp only [Bool.or_eq_false_iff, Bool.not_eq_false', decide_eq_true_eq] at h; exact h.2
  have hn : c.frames.length ≤ 8 := hr.2.1
  refine LoopVC.inv (fun x : Nat × Nat × Nat => x.1 ≤ c.frames.length ∧ x.2.1 ≤ x.1 ∧ x.2.2 ≤ x.1 ∧ (0 < x.2.1 ↔ ∃ k, k < x.1 ∧ c.loose k = true) ∧ (0 < x.2.2 ↔ ∃ k, k < x.1 ∧ c.fresh k = true))
    (fun x => stL [(1, .va 1 0 0), (5, .c (.int .i64 x.2.1)), (6, .c (.int .i64 x.2.2)), (28, .c (slL 3 frmE c.frames)), (29, .c (.int .i64 c.frames.length)), (30, .c (.int .i64 x.1))] [(1, vE [.c (slL 3 frmE c.frames), .c (.int .i64 c.hand)])])
    (fun x => c.frames.length - x.1) (0, 0, 0) ⟨Nat.zero_le _, Nat.le_refl _, Nat.le_refl _, ⟨fun h => absurd h (Nat.lt_irrefl 0), fun ⟨k, hk, _⟩ => absurd hk (Nat.not_lt_zero k)⟩, ⟨fun h => absurd h (Nat.lt_irrefl 0), fun ⟨k, hk, _⟩ => absurd hk (Nat.not_lt_zero k)⟩⟩
    (Le.of ⟨⟨rfl, rfl, rfl⟩, rfl, rfl, CEq.refl _, rfl, rfl, trivial⟩ ⟨⟨_, rfl, SubE.var2 (CEq.refl _) rfl⟩, trivial⟩) ?_
  rintro Q hQ ⟨i, a, b⟩ ⟨hi, ha, hb, ha', hb'⟩
  simp only at hi ha hb ha' hb'
  have hrg1 : rng .i64 ((i : Int) + 1) := by simp only [rng]; omega
  have hrg2 : rng .i64 ((a : Int) + 1) := by simp only [rng]; omega
  have hrg3 : rng .i64 ((b : Int) + 1) := by simp only [rng]; omega
  have step : ∀ (p : Nat → Bool) (x : Nat), (0 < x ↔ ∃ k, k < i ∧ p k = true) → (p i = true → (0 < x + 1 ↔ ∃ k, k < i + 1 ∧ p k = true)) ∧ (p i = false → (0 < x ↔ ∃ k, k < i + 1 ∧ p k = true)) := fun p x hx => by
    refine ⟨fun hp => ⟨fun _ => ⟨i, by omega, hp⟩, fun _ => by omega⟩, fun hp => hx.trans ⟨fun ⟨k, hk, h⟩ => ⟨k, by omega, h⟩, fun ⟨k, hk, h⟩ => ⟨k, ?_, h⟩⟩⟩
    rcases Nat.lt_or_ge k i with h1 | h1
    · exact h1
    · obtain rfl : k = i := by omega
      rw [hp] at h; cases h
  repeat' first
    | with_reducible refine NeedI.mk (fun h => h) ?_
    | with_reducible refine NeedI.mk (fun h => h.2) ?_
    | with_reducible refine NeedI.mk (fun h => h.1) ?_
    | with_reducible exact Done.mk
    | with_reducible refine Both.mk (fun _ => ?_) (fun _ => ?_)
    | with_reducible refine Both2.mk (fun _ => ?_) ?_
    | with_reducible refine Need.mk (by first | with_reducible exact hrg1 | with_reducible exact hrg2 | with_reducible exact hrg3 | (simp only [decide_eq_true_eq, decide_eq_false_iff_not, rng] at *; omega)) ?_
    | (fail_if_success with_reducible refine LoopVC.mk ?_
       fail_if_success with_reducible refine Need.mk ?_ ?_
       fail_if_success with_reducible refine CallVC.mk ?_
       fail_if_success with_reducible refine LoopEnd.mk ?_
       fail_if_success with_reducible refine Out.mk ?_
       fail_if_success with_reducible show False
       fail_if_success with_reducible refine NeedI.mk ?_ ?_
       conv => whnf)
  · rename_i h1 h2 h3
    have h2 : c.loose i = true := h2
    have h3 : c.fresh i = true := by unfold Clk.fresh; rw [h2]; exact h3
    simp only [decide_eq_true_eq] at h1
    exact LoopEnd.mk ⟨(i + 1, a + 1, b + 1), ⟨by show i + 1 ≤ _; omega, by show a + 1 ≤ i + 1; omega, by show b + 1 ≤ i + 1; omega, (step _ _ ha').1 h2, (step _ _ hb').1 h3⟩, by show _ - (i + 1) < _ - i; omega,
      Le.of ⟨⟨rfl, rfl, rfl⟩, cI (by simp), cI (by simp), CEq.refl _, rfl, cI (by simp), trivial⟩ ⟨⟨_, rfl, SubE.var2 (CEq.refl _) rfl⟩, trivial⟩⟩
  · rename_i h1 h2 h3
    have h2 : c.loose i = true := h2
    have h3 : c.fresh i = false := by unfold Clk.fresh; rw [h2]; exact h3
    simp only [decide_eq_true_eq] at h1
    exact LoopEnd.mk ⟨(i + 1, a + 1, b), ⟨by show i + 1 ≤ _; omega, by show a + 1 ≤ i + 1; omega, by show b ≤ i + 1; omega, (step _ _ ha').1 h2, (step _ _ hb').2 h3⟩, by show _ - (i + 1) < _ - i; omega,
      Le.of ⟨⟨rfl, rfl, rfl⟩, cI (by simp), rfl, CEq.refl _, rfl, cI (by simp), trivial⟩ ⟨⟨_, rfl, SubE.var2 (CEq.refl _) rfl⟩, trivial⟩⟩
  · rename_i h1 h2
    have h2 : c.loose i = false := h2
    have h3 : c.fresh i = false := by unfold Clk.fresh; rw [h2]; rfl
    simp only [decide_eq_true_eq] at h1
    exact LoopEnd.mk ⟨(i + 1, a, b), ⟨by show i + 1 ≤ _; omega, by show a ≤ i + 1; omega, by show b ≤ i + 1; omega, (step _ _ ha').2 h2, (step _ _ hb').2 h3⟩, by show _ - (i + 1) < _ - i; omega,
      Le.of ⟨⟨rfl, rfl, rfl⟩, rfl, rfl, CEq.refl _, rfl, cI (by simp), trivial⟩ ⟨⟨_, rfl, SubE.var2 (CEq.refl _) rfl⟩, trivial⟩⟩
  · rename_i h1
    simp only [decide_eq_false_iff_not] at h1
    obtain rfl : i = c.frames.length := by omega
    have hany : 0 < a ↔ c.any := ha'.trans (any_iff' hr).symm
    have hgo : c.goes ↔ 0 < a := ⟨fun h => hany.2 h.2, fun h => ⟨hr, hany.1 h⟩⟩
    refine Out.mk (hQ _ _ ?_)
    repeat' first
      | with_reducible refine NeedI.mk (fun h => h) ?_
      | with_reducible refine NeedI.mk (fun h => h.2) ?_
      | with_reducible refine NeedI.mk (fun h => h.1) ?_
      | with_reducible exact Done.mk
      | with_reducible refine Both.mk (fun _ => ?_) (fun _ => ?_)
      | with_reducible refine Both2.mk (fun _ => ?_) ?_
      | with_reducible refine Need.mk (by with_reducible exact Nat.le_of_eq (Nat.zero_add _)) ?_
      | (fail_if_success with_reducible refine LoopVC.mk ?_
         fail_if_success with_reducible refine Need.mk ?_ ?_
         fail_if_success with_reducible refine CallVC.mk ?_
         fail_if_success with_reducible refine LoopEnd.mk ?_
         fail_if_success with_reducible refine Out.mk ?_
         fail_if_success with_reducible show False
         fail_if_success with_reducible refine NeedI.mk ?_ ?_
         conv => whnf)
    refine CallVC.mk' (fun _ => sweep_ok K c (by omega)) (fun _ => .cons ((.many fun j hj => by (rcases (show j = 0 ∨ j = 1 by omega) with rfl | rfl <;> exact CEq.refl _))) .nil) ?_
    repeat' first
      | with_reducible refine NeedI.mk (fun h => h) ?_
      | with_reducible refine NeedI.mk (fun h => h.2) ?_
      | with_reducible refine NeedI.mk (fun h => h.1) ?_
      | with_reducible exact Done.mk
      | with_reducible refine Both.mk (fun _ => ?_) (fun _ => ?_)
      | with_reducible refine Both2.mk (fun _ => ?_) ?_
      | with_reducible refine Need.mk (by with_reducible exact Nat.le_of_eq (Nat.zero_add _)) ?_
      | (fail_if_success with_reducible refine LoopVC.mk ?_
         fail_if_success with_reducible refine Need.mk ?_ ?_
         fail_if_success with_reducible refine CallVC.mk ?_
         fail_if_success with_reducible refine LoopEnd.mk ?_
         fail_if_success with_reducible refine Out.mk ?_
         fail_if_success with_reducible show False
         fail_if_success with_reducible refine NeedI.mk ?_ ?_
         conv => whnf)
    · rename_i h2
      exfalso
      have : c.sw.frames.length = c.frames.length := sw_len c
      simp [hgo, this] at h2
    · rename_i h2 h3
      refine CallVC.mk' (fun _ => awake_ok K L.awake) (fun _ => .nil) ?_
      repeat' first
        | with_reducible refine NeedI.mk (fun h => h) ?_
        | with_reducible refine NeedI.mk (fun h => h.2) ?_
        | with_reducible refine NeedI.mk (fun h => h.1) ?_
        | with_reducible exact Done.mk
        | with_reducible refine Both.mk (fun _ => ?_) (fun _ => ?_)
        | with_reducible refine Both2.mk (fun _ => ?_) ?_
        | with_reducible refine Need.mk (by with_reducible exact CEq.refl _) ?_
        | (fail_if_success with_reducible refine LoopVC.mk ?_
           fail_if_success with_reducible refine Need.mk ?_ ?_
           fail_if_success with_reducible refine CallVC.mk ?_
           fail_if_success with_reducible refine LoopEnd.mk ?_
           fail_if_success with_reducible refine Out.mk ?_
           fail_if_success with_reducible show False
           fail_if_success with_reducible refine NeedI.mk ?_ ?_
           conv => whnf)
    · rename_i h2 h3
      have hg : c.goes := by simpa using h3
      have hsw : c.sw = c.swept := if_pos hg
      have hat : c.at' < c.frames.length := at_lt hr
      have hwho : c.who = (c.at' : Int) := if_pos hg
      rw [hwho, hsw]
      have hix : ∀ q : Prop, (q → 0 ≤ (c.at' : Int) ∧ (c.at' : Int) < (c.frames.length : Int)) := fun q _ => by omega
      have hfl : c.swept.frames.length = c.frames.length := frK_len _
      have hix' : ∀ q : Prop, (q → 0 ≤ (c.at' : Int) ∧ (c.at' : Int) < (c.swept.frames.length : Int)) := fun q _ => by omega
      repeat' first
        | with_reducible refine NeedI.mk (fun h => h) ?_
        | with_reducible refine NeedI.mk (fun h => h.2) ?_
        | with_reducible refine NeedI.mk (fun h => h.1) ?_
        | with_reducible exact Done.mk
        | with_reducible refine Both.mk (fun _ => ?_) (fun _ => ?_)
        | with_reducible refine Both2.mk (fun _ => ?_) ?_
        | with_reducible refine Need.mk (by first | exact hix _ | exact hix' _) ?_
        | (fail_if_success with_reducible refine LoopVC.mk ?_
           fail_if_success with_reducible refine Need.mk ?_ ?_
           fail_if_success with_reducible refine CallVC.mk ?_
           fail_if_success with_reducible refine LoopEnd.mk ?_
           fail_if_success with_reducible refine Out.mk ?_
           fail_if_success with_reducible show False
           fail_if_success with_reducible refine NeedI.mk ?_ ?_
           conv => whnf)
      · rename_i h4
        exfalso
        have h5 := at_is_loose hg
        have h6 : (c.frames.getD c.at' default).pins = 0 := of_decide_eq_true h5
        have h7 := at_unused hg
        have h8 := at_loose hg
        simp only [Int.toNat_natCast, h6] at h4
        have h9 : ((c.swept.frames).getD c.at' default).used = false := h7
        rw [h9] at h4
        have h10 : ((c.frames.getD c.at' default).used = true → b = 0) := fun hu => by
          have := h8 ⟨h5, hu⟩
          rcases Nat.eq_zero_or_pos b with h | h
          · exact h
          · obtain ⟨k, hk, hf⟩ := hb'.1 h
            rw [this k hk] at hf; cases hf
        simp only [Bool.or_eq_true, Bool.and_eq_true, decide_eq_true_eq] at h4
        rcases h4 with ((((h4 | h4) | h4) | h4) | h4)
        · omega
        · omega
        · omega
        · have := h10 h4.1
          omega
        · cases h4
      · refine LoopVC.inv (fun i : Nat => i ≤ c.frames.length) (fun i => stL [(9, .va 9 0 0), (106, .c (slL 3 frmE c.frames)), (107, .c (.int .i64 c.frames.length)), (108, .c (.int .i64 i))]
            [(9, vE [.c (slL 3 frmE c.swept.frames), .c (.int .i64 c.swept.hand)])])
          (fun i => c.frames.length - i) 0 (Nat.zero_le _) (Le.of ⟨⟨rfl, rfl, rfl⟩, CEq.refl _, rfl, rfl, trivial⟩ ⟨⟨_, rfl, SubE.var2 (CEq.refl _) rfl⟩, trivial⟩) ?_
        rintro Q hQ i hi
        repeat' first
          | with_reducible refine NeedI.mk (fun h => h) ?_
          | with_reducible refine NeedI.mk (fun h => h.2) ?_
          | with_reducible refine NeedI.mk (fun h => h.1) ?_
          | with_reducible exact Done.mk
          | with_reducible refine Both.mk (fun _ => ?_) (fun _ => ?_)
          | with_reducible refine Both2.mk (fun _ => ?_) ?_
          | with_reducible refine Need.mk (by first | (simp only [decide_eq_true_eq, decide_eq_false_iff_not, rng] at *; omega) | (intro _; simp only [decide_eq_true_eq, decide_eq_false_iff_not, rng] at *; omega)) ?_
          | (fail_if_success with_reducible refine LoopVC.mk ?_
             fail_if_success with_reducible refine Need.mk ?_ ?_
             fail_if_success with_reducible refine CallVC.mk ?_
             fail_if_success with_reducible refine LoopEnd.mk ?_
             fail_if_success with_reducible refine Out.mk ?_
             fail_if_success with_reducible show False
             fail_if_success with_reducible refine NeedI.mk ?_ ?_
             conv => whnf)
        · rename_i h5 h6
          exfalso
          simp only [decide_eq_true_eq] at h5
          have hilt : i < c.n := by have : c.n = c.frames.length := rfl; omega
          have hd : c.swept.frames.getD i default = { c.fr i with used := (c.fr i).used && !(c.loose i && decide (distK c.n c.h i < c.stop)) } := frK_get hilt
          have hf : c.frames.getD i default = c.fr i := rfl
          have hlo : c.loose i = decide ((c.fr i).pins = 0) := rfl
          simp only [Int.toNat_natCast, hd, hf, hlo] at h6
          by_cases hp : (c.fr i).pins = 0
          · cases hu : (c.fr i).used <;> simp [hu, hp] at h6
          · cases hu : (c.fr i).used <;> simp [hu, hp] at h6
        · rename_i h5 h6
          simp only [decide_eq_true_eq] at h5
          exact LoopEnd.mk ⟨i + 1, by omega, by omega, Le.of ⟨⟨rfl, rfl, rfl⟩, CEq.refl _, rfl, cI (by simp), trivial⟩ ⟨⟨_, rfl, SubE.var2 (CEq.refl _) rfl⟩, trivial⟩⟩
        · refine Out.mk (hQ _ _ ?_)
          repeat' first
            | with_reducible refine NeedI.mk (fun h => h) ?_
            | with_reducible refine NeedI.mk (fun h => h.2) ?_
            | with_reducible refine NeedI.mk (fun h => h.1) ?_
            | with_reducible exact Done.mk
            | with_reducible refine Both.mk (fun _ => ?_) (fun _ => ?_)
            | with_reducible refine Both2.mk (fun _ => ?_) ?_
            | with_reducible refine Need.mk (by with_reducible exact Nat.le_of_eq (Nat.zero_add _)) ?_
            | (fail_if_success with_reducible refine LoopVC.mk ?_
               fail_if_success with_reducible refine Need.mk ?_ ?_
               fail_if_success with_reducible refine CallVC.mk ?_
               fail_if_success with_reducible refine LoopEnd.mk ?_
               fail_if_success with_reducible refine Out.mk ?_
               fail_if_success with_reducible show False
               fail_if_success with_reducible refine NeedI.mk ?_ ?_
               conv => whnf)
          refine CallVC.mk' (fun _ => awake_ok K L.awake) (fun _ => .nil) ?_
          repeat' first
            | with_reducible refine NeedI.mk (fun h => h) ?_
            | with_reducible refine NeedI.mk (fun h => h.2) ?_
            | with_reducible refine NeedI.mk (fun h => h.1) ?_
            | with_reducible exact Done.mk
            | with_reducible refine Both.mk (fun _ => ?_) (fun _ => ?_)
            | with_reducible refine Both2.mk (fun _ => ?_) ?_
            | with_reducible refine Need.mk (by with_reducible exact CEq.refl _) ?_
            | (fail_if_success with_reducible refine LoopVC.mk ?_
               fail_if_success with_reducible refine Need.mk ?_ ?_
               fail_if_success with_reducible refine CallVC.mk ?_
               fail_if_success with_reducible refine LoopEnd.mk ?_
               fail_if_success with_reducible refine Out.mk ?_
               fail_if_success with_reducible show False
               fail_if_success with_reducible refine NeedI.mk ?_ ?_
               conv => whnf)
end
end Lk.S09
