/-
  Gs04c: what these chapters need.
-/
import Derived.Test.YtaijfhomokkpeaaGs04b
set_option linter.unusedSimpArgs false
set_option linter.unusedVariables false
namespace Lk.S04
open Go Lk Lk.C Lk.S03
def u2E (p : UInt8 × UInt8) (j : Nat) : Cell :=
  match j with
  | 0 => .int .u8 p.1.toNat
  | _ => .int .u8 p.2.toNat
def EU2 : Enc (UInt8 × UInt8) where
  sh := [.int .u8, .int .u8]
  enc := u2E
  wf _ := True
  dec g h := by
    obtain ⟨n, hn, hr⟩ := (h 0 _ rfl).intE
    obtain ⟨m, hm, hs⟩ := (h 1 _ rfl).intE
    simp only [rng] at hr hs
    refine ⟨(UInt8.ofNat n.toNat, UInt8.ofNat m.toNat), trivial, fun j hj => ?_⟩
    have hj : j < 2 := hj
    rcases (show j = 0 ∨ j = 1 by omega) with rfl | rfl
    · rw [hn]; exact eI (by show n = _; rw [UInt8.toNat_ofNat']; omega)
    · rw [hm]; exact eI (by show m = _; rw [UInt8.toNat_ofNat']; omega)
theorem updC_at {c : Nat → Nat → Cell} {row : Nat} {v : Cell} {i : Nat} : updC c row 0 v i 0 = if i = row then v else c i 0 := by
  unfold updC
  by_cases h : i = row
  · subst h; simp
  · rw [if_neg h]
    show (bif Nat.beq i row then v else c i 0) = c i 0
    rw [beq_ne h]; rfl
section
variable {P : Program} {F : Nat → Nat}
set_option maxHeartbeats 8000000 in
set_option maxRecDepth 100000 in
theorem deviceOnce_law (L : KLV P F) (hk : law04_DeviceOnce_k P F) (acts : List (UInt8 × UInt8)) (hl : acts.length ≤ 9223372036854775807) :
    FnOk P (F 157) [.one (slL 2 u2E acts)] [.one (.im (.bool true))] := by
  have K := L.k
  refine fnOk K.k.m hk ?_
  repeat' first
    | (with_reducible first | refine NeedI.mk (fun h => h) ?_ | refine NeedI.mk (fun h => h.2) ?_ | refine NeedI.mk (fun h => h.1) ?_ | (show Done; exact Done.mk) | refine Both.mk (fun _ => ?_) (fun _ => ?_) | refine Both2.mk (fun _ => ?_) ?_ | (refine Need.mk ?_ ?_; (first | omega | with_reducible exact CEq.refl _ | (dsimp only; omega) | (dsimp only [rng]; omega) | (rw [Int.toNat_natCast]; omega))))
    | ((with_reducible refine Need.mk ?_ ?_); exact CEq.refl _)
    | ((with_reducible fail_if_success first | refine LoopVC.mk ?_ | refine Need.mk ?_ ?_ | refine CallVC.mk ?_ | refine LoopEnd.mk ?_ | refine Out.mk ?_ | show False | refine NeedI.mk ?_ ?_); conv => whnf)
  refine CallVC.mk' (fun _ => new_ok K L.new) (fun _ => .nil) ?_
  repeat' first
    | (with_reducible first | refine NeedI.mk (fun h => h) ?_ | refine NeedI.mk (fun h => h.2) ?_ | refine NeedI.mk (fun h => h.1) ?_ | (show Done; exact Done.mk) | refine Both.mk (fun _ => ?_) (fun _ => ?_) | refine Both2.mk (fun _ => ?_) ?_ | (refine Need.mk ?_ ?_; (first | omega | with_reducible exact CEq.refl _ | (dsimp only; omega) | (dsimp only [rng]; omega) | (rw [Int.toNat_natCast]; omega))))
    | ((with_reducible refine Need.mk ?_ ?_); exact CEq.refl _)
    | ((with_reducible fail_if_success first | refine LoopVC.mk ?_ | refine Need.mk ?_ ?_ | refine CallVC.mk ?_ | refine LoopEnd.mk ?_ | refine Out.mk ?_ | show False | refine NeedI.mk ?_ ?_); conv => whnf)
  refine LoopVC.inv (fun x : Nat × Dv × (Nat → Bool) × (Nat → List UInt8) => x.1 ≤ 60 ∧ Inv x.1 x.2.1 x.2.2.1 x.2.2.2 ∧ ∀ t : Nat, x.2.1.next ≤ t → x.2.2.1 t = false) (fun x => stL [(0, .c (slL 2 u2E acts)), (3, .va 3 0 0), (4, .ra 4 0 1 0 0), (5, .ra 5 0 1 0 0), (6, .c (.int .i64 x.2.1.next)), (7, .c (.int .i64 x.1))]
    [(3, vE [.c (slL 1 strE x.2.1.disk.secs), .c (slL 2 wrE x.2.1.disk.cache), .c (.int .i64 x.2.1.next), .c (slL 4 rqE x.2.1.flight)]), (4, ⟨1, 61, .dat fun i _ => .bool (x.2.2.1 i), false, true⟩), (5, ⟨1, 5, .dat fun i _ => .str (x.2.2.2 i), false, true⟩)]) (fun x => 60 - x.1) (0, v0, fun _ => false, fun _ => []) ⟨by omega, Inv.zero, fun _ _ => rfl⟩ ?_ ?_
  · (refine Le.of ?_ ?_ <;> repeat' first | exact trivial | exact CEq.refl _ | exact rfl | exact cI (by push_cast; first | rfl | omega) | exact SubE.dat fun _ _ _ _ => CEq.refl _ | refine SubE.var2 ?_ ?_ | refine SubE.var1 ?_ | refine SubE.var3 ?_ ?_ ?_ | refine SubE.var4 ?_ ?_ ?_ ?_ | refine SubE.var5 ?_ ?_ ?_ ?_ ?_ | refine Exists.intro _ (And.intro rfl ?_) | refine And.intro ?_ ?_)
    all_goals exact ⟨rfl, rfl, id, id, fun r hr j hj => by
      have hj : j < 1 := hj
      obtain rfl : j = 0 := by omega
      exact CEq.refl _⟩
  rintro Q hQ ⟨i, d, told, last⟩ ⟨hi, hv, ht⟩
  dsimp only at hi hv ht
  repeat' first
    | (with_reducible first | refine NeedI.mk (fun h => h) ?_ | refine NeedI.mk (fun h => h.2) ?_ | refine NeedI.mk (fun h => h.1) ?_ | (show Done; exact Done.mk) | refine Both.mk (fun _ => ?_) (fun _ => ?_) | refine Both2.mk (fun _ => ?_) ?_ | (refine Need.mk ?_ ?_; (first | omega | with_reducible exact CEq.refl _ | (dsimp only; omega) | (dsimp only [rng]; omega) | (rw [Int.toNat_natCast]; omega))))
    | ((with_reducible refine Need.mk ?_ ?_); exact CEq.refl _)
    | ((with_reducible fail_if_success first | refine LoopVC.mk ?_ | refine Need.mk ?_ ?_ | refine CallVC.mk ?_ | refine LoopEnd.mk ?_ | refine Out.mk ?_ | show False | refine NeedI.mk ?_ ?_); conv => whnf)
  · rename_i h1
    rw [Bool.and_eq_true] at h1
    have h0 : i < 60 := by have := of_decide_eq_true h1.2; omega
    have h1 : i < acts.length := by have := of_decide_eq_true h1.1; omega
    have hu : ∀ u : UInt8, u.toNat < 256 := fun u => u.toNat_lt
    have hu0 := hu (acts.getD i default).1
    have hu1 := hu (acts.getD i default).2
    repeat' first
      | (with_reducible first | refine NeedI.mk (fun h => h) ?_ | refine NeedI.mk (fun h => h.2) ?_ | refine NeedI.mk (fun h => h.1) ?_ | (show Done; exact Done.mk) | refine Both.mk (fun _ => ?_) (fun _ => ?_) | refine Both2.mk (fun _ => ?_) ?_ | (refine Need.mk ?_ ?_; (first | omega | with_reducible exact CEq.refl _ | (dsimp only; omega) | (dsimp only [rng]; omega) | (rw [Int.toNat_natCast]; omega))))
      | ((with_reducible refine Need.mk ?_ ?_); exact CEq.refl _)
      | ((with_reducible fail_if_success first | refine LoopVC.mk ?_ | refine Need.mk ?_ ?_ | refine CallVC.mk ?_ | refine LoopEnd.mk ?_ | refine Out.mk ?_ | show False | refine NeedI.mk ?_ ?_); conv => whnf)
    refine Need.mk (by show rng .i64 (((acts.getD i default).2.toNat : Nat) : Int); dsimp only [rng]; omega) ?_
    rw [Int.toNat_natCast]
    obtain ⟨kk, hkk⟩ : ∃ kk : Int, ((acts.getD (i, d, told, last).fst default).1.toNat : Int) % 5 = kk := ⟨_, rfl⟩
    obtain ⟨nn, hnn⟩ : ∃ nn : Nat, (acts.getD (i, d, told, last).fst default).2.toNat = nn := ⟨_, rfl⟩
    rw [hkk, hnn]
    have hk0 : 0 ≤ kk ∧ kk < 5 := by omega
    have hn0 : nn < 256 := by rw [← hnn]; exact hu _
    clear hu hu0 hu1 hkk hnn h1
    repeat' first
      | (with_reducible first | refine NeedI.mk (fun h => h) ?_ | refine NeedI.mk (fun h => h.2) ?_ | refine NeedI.mk (fun h => h.1) ?_ | (show Done; exact Done.mk) | refine Both.mk (fun _ => ?_) (fun _ => ?_) | refine Both2.mk (fun _ => ?_) ?_ | (refine Need.mk ?_ ?_; (first | omega | with_reducible exact CEq.refl _ | (dsimp only; omega) | (dsimp only [rng]; omega) | (rw [Int.toNat_natCast]; omega))))
      | ((with_reducible refine Need.mk ?_ ?_); exact CEq.refl _)
      | ((with_reducible fail_if_success first | refine LoopVC.mk ?_ | refine Need.mk ?_ ?_ | refine CallVC.mk ?_ | refine LoopEnd.mk ?_ | refine Out.mk ?_ | show False | refine NeedI.mk ?_ ?_); conv => whnf)
    · rename_i g1 g2
      have g2 := of_decide_eq_true g2
      refine Need.mk (fun r hr => by (rcases (show r = 0 ∨ r = 1 by omega) with rfl | rfl <;> trivial)) ?_
      generalize hs : bytesOf 2 _ = s
      have hs2 : s.length = 2 := by rw [← hs]; rfl
      clear hs
      have hs32 : (s ++ s ++ s ++ s ++ s ++ s ++ s ++ s ++ s ++ s ++ s ++ s ++ s ++ s ++ s ++ s).length = 32 := by simp only [List.length_append]; omega
      repeat' first
        | (with_reducible first | refine NeedI.mk (fun h => h) ?_ | refine NeedI.mk (fun h => h.2) ?_ | refine NeedI.mk (fun h => h.1) ?_ | (show Done; exact Done.mk) | refine Both.mk (fun _ => ?_) (fun _ => ?_) | refine Both2.mk (fun _ => ?_) ?_ | (refine Need.mk ?_ ?_; (first | omega | with_reducible exact CEq.refl _ | (simp only [List.length_append]; omega) | (dsimp only [rng]; omega))))
        | ((with_reducible refine Need.mk ?_ ?_); exact CEq.refl _)
        | ((with_reducible fail_if_success first | refine LoopVC.mk ?_ | refine Need.mk ?_ ?_ | refine CallVC.mk ?_ | refine LoopEnd.mk ?_ | refine Out.mk ?_ | show False | refine NeedI.mk ?_ ?_); conv => whnf)
      · rename_i g3
        have g3 := of_decide_eq_true g3
        exfalso; omega
      · clear g1
        rename_i g1
        have hmy : may (kk + 1) (1 + (nn : Int) % 4) (s ++ s ++ s ++ s ++ s ++ s ++ s ++ s ++ s ++ s ++ s ++ s ++ s ++ s ++ s ++ s) := .inr (.inl ⟨by omega, by omega, hs32⟩)
        obtain ⟨v1, v2, v3, v4⟩ := hv.submit h0 ht hmy (by omega)
        refine CallVC.mk' (fun _ => submit_ok K d (kk + 1) (1 + (nn : Int) % 4) (s ++ s ++ s ++ s ++ s ++ s ++ s ++ s ++ s ++ s ++ s ++ s ++ s ++ s ++ s ++ s) hv.r.small (by rw [hs32]; decide)) (fun _ => .cons ((.many fun j hj => by (rcases (show j = 0 ∨ j = 1 ∨ j = 2 ∨ j = 3 by omega) with rfl | rfl | rfl | rfl <;> exact CEq.refl _))) (.cons (.one (CEq.refl _)) (.cons (.one (CEq.refl _)) (.cons (.one (CEq.refl _)) .nil)))) ?_
        clear hmy
        have hb1 := hv.n
        have hb2 := hv.r.2.1.1
        generalize subm d (kk + 1) (1 + (nn : Int) % 4) (s ++ s ++ s ++ s ++ s ++ s ++ s ++ s ++ s ++ s ++ s ++ s ++ s ++ s ++ s ++ s) = y at *
        repeat' first
          | (with_reducible first | refine NeedI.mk (fun h => h) ?_ | refine NeedI.mk (fun h => h.2) ?_ | refine NeedI.mk (fun h => h.1) ?_ | (show Done; exact Done.mk) | refine Both.mk (fun _ => ?_) (fun _ => ?_) | refine Both2.mk (fun _ => ?_) ?_ | (refine Need.mk ?_ ?_; (first | omega | with_reducible exact CEq.refl _ | (dsimp only; omega) | (dsimp only [rng]; omega) | (rw [Int.toNat_natCast]; omega))))
          | ((with_reducible refine Need.mk ?_ ?_); exact CEq.refl _)
          | ((with_reducible fail_if_success first | refine LoopVC.mk ?_ | refine Need.mk ?_ ?_ | refine CallVC.mk ?_ | refine LoopEnd.mk ?_ | refine Out.mk ?_ | show False | refine NeedI.mk ?_ ?_); conv => whnf)
        · rename_i g
          exfalso
          clear hQ
          dsimp only at g
          by_cases hz : y.2.2 = 0
          · have z1 := v3.1 hz
            have z2 := v4 hz
            rw [hz, z2, decide_eq_true (rfl : (0 : Int) = 0), decide_eq_true (show (d.flight.length : Int) < 4 by omega), decide_eq_true (rfl : d.next = d.next)] at g
            exact absurd g (by decide)
          · have z1 : ¬ d.flight.length < 4 := fun x => hz (v3.2 x)
            rw [decide_eq_false hz, decide_eq_false (show ¬ (d.flight.length : Int) < 4 by omega)] at g
            exact absurd g (by simp)
        · rename_i g1 g2
          have g2 := of_decide_eq_true g2
          rw [if_pos g2] at v2
          refine LoopEnd.mk ⟨(i + 1, y.1, told, last), ⟨h0, v1, fun t ht' => ht t (by rw [v2] at ht'; omega)⟩, by show 60 - (i + 1) < 60 - i; omega, ?_⟩
          dsimp only
          rw [← v2]
          (refine Le.of ?_ ?_ <;> repeat' first | exact trivial | exact CEq.refl _ | exact rfl | exact cI (by push_cast; first | rfl | omega) | exact SubE.dat fun _ _ _ _ => CEq.refl _ | refine SubE.var2 ?_ ?_ | refine SubE.var1 ?_ | refine SubE.var3 ?_ ?_ ?_ | refine SubE.var4 ?_ ?_ ?_ ?_ | refine SubE.var5 ?_ ?_ ?_ ?_ ?_ | refine Exists.intro _ (And.intro rfl ?_) | refine And.intro ?_ ?_)
        · rename_i g1 g2
          have g2 := of_decide_eq_false g2
          rw [if_neg g2] at v2
          refine LoopEnd.mk ⟨(i + 1, y.1, told, last), ⟨h0, v1, fun t ht' => ht t (by rw [v2] at ht'; omega)⟩, by show 60 - (i + 1) < 60 - i; omega, ?_⟩
          dsimp only
          rw [← v2]
          (refine Le.of ?_ ?_ <;> repeat' first | exact trivial | exact CEq.refl _ | exact rfl | exact cI (by push_cast; first | rfl | omega) | exact SubE.dat fun _ _ _ _ => CEq.refl _ | refine SubE.var2 ?_ ?_ | refine SubE.var1 ?_ | refine SubE.var3 ?_ ?_ ?_ | refine SubE.var4 ?_ ?_ ?_ ?_ | refine SubE.var5 ?_ ?_ ?_ ?_ ?_ | refine Exists.intro _ (And.intro rfl ?_) | refine And.intro ?_ ?_)
    · rename_i g1 g2 g3
      have g3 := of_decide_eq_true g3
      have hmy : may (kk + 1) (0) ([]) := .inr (.inr ⟨by omega, rfl, rfl⟩)
      obtain ⟨v1, v2, v3, v4⟩ := hv.submit h0 ht hmy (by omega)
      refine CallVC.mk' (fun _ => submit_ok K d (kk + 1) (0) ([]) hv.r.small (by decide)) (fun _ => .cons ((.many fun j hj => by (rcases (show j = 0 ∨ j = 1 ∨ j = 2 ∨ j = 3 by omega) with rfl | rfl | rfl | rfl <;> exact CEq.refl _))) (.cons (.one (CEq.refl _)) (.cons (.one (CEq.refl _)) (.cons (.one (CEq.refl _)) .nil)))) ?_
      clear hmy
      have hb1 := hv.n
      have hb2 := hv.r.2.1.1
      generalize subm d (kk + 1) (0) ([]) = y at *
      repeat' first
        | (with_reducible first | refine NeedI.mk (fun h => h) ?_ | refine NeedI.mk (fun h => h.2) ?_ | refine NeedI.mk (fun h => h.1) ?_ | (show Done; exact Done.mk) | refine Both.mk (fun _ => ?_) (fun _ => ?_) | refine Both2.mk (fun _ => ?_) ?_ | (refine Need.mk ?_ ?_; (first | omega | with_reducible exact CEq.refl _ | (dsimp only; omega) | (dsimp only [rng]; omega) | (rw [Int.toNat_natCast]; omega))))
        | ((with_reducible refine Need.mk ?_ ?_); exact CEq.refl _)
        | ((with_reducible fail_if_success first | refine LoopVC.mk ?_ | refine Need.mk ?_ ?_ | refine CallVC.mk ?_ | refine LoopEnd.mk ?_ | refine Out.mk ?_ | show False | refine NeedI.mk ?_ ?_); conv => whnf)
      · rename_i g
        exfalso
        clear hQ
        dsimp only at g
        by_cases hz : y.2.2 = 0
        · have z1 := v3.1 hz
          have z2 := v4 hz
          rw [hz, z2, decide_eq_true (rfl : (0 : Int) = 0), decide_eq_true (show (d.flight.length : Int) < 4 by omega), decide_eq_true (rfl : d.next = d.next)] at g
          exact absurd g (by decide)
        · have z1 : ¬ d.flight.length < 4 := fun x => hz (v3.2 x)
          rw [decide_eq_false hz, decide_eq_false (show ¬ (d.flight.length : Int) < 4 by omega)] at g
          exact absurd g (by simp)
      · rename_i g1 g2
        have g2 := of_decide_eq_true g2
        rw [if_pos g2] at v2
        refine LoopEnd.mk ⟨(i + 1, y.1, told, last), ⟨h0, v1, fun t ht' => ht t (by rw [v2] at ht'; omega)⟩, by show 60 - (i + 1) < 60 - i; omega, ?_⟩
        dsimp only
        rw [← v2]
        (refine Le.of ?_ ?_ <;> repeat' first | exact trivial | exact CEq.refl _ | exact rfl | exact cI (by push_cast; first | rfl | omega) | exact SubE.dat fun _ _ _ _ => CEq.refl _ | refine SubE.var2 ?_ ?_ | refine SubE.var1 ?_ | refine SubE.var3 ?_ ?_ ?_ | refine SubE.var4 ?_ ?_ ?_ ?_ | refine SubE.var5 ?_ ?_ ?_ ?_ ?_ | refine Exists.intro _ (And.intro rfl ?_) | refine And.intro ?_ ?_)
      · rename_i g1 g2
        have g2 := of_decide_eq_false g2
        rw [if_neg g2] at v2
        refine LoopEnd.mk ⟨(i + 1, y.1, told, last), ⟨h0, v1, fun t ht' => ht t (by rw [v2] at ht'; omega)⟩, by show 60 - (i + 1) < 60 - i; omega, ?_⟩
        dsimp only
        rw [← v2]
        (refine Le.of ?_ ?_ <;> repeat' first | exact trivial | exact CEq.refl _ | exact rfl | exact cI (by push_cast; first | rfl | omega) | exact SubE.dat fun _ _ _ _ => CEq.refl _ | refine SubE.var2 ?_ ?_ | refine SubE.var1 ?_ | refine SubE.var3 ?_ ?_ ?_ | refine SubE.var4 ?_ ?_ ?_ ?_ | refine SubE.var5 ?_ ?_ ?_ ?_ ?_ | refine Exists.intro _ (And.intro rfl ?_) | refine And.intro ?_ ?_)
    · rename_i g1 g2 g3
      have g1 := of_decide_eq_true g1
      have g2 := of_decide_eq_false g2
      have g3 := of_decide_eq_false g3
      have hmy : may (kk + 1) (1 + (nn : Int) % 4) ([]) := .inl ⟨by omega, by omega, rfl⟩
      obtain ⟨v1, v2, v3, v4⟩ := hv.submit h0 ht hmy (by omega)
      refine CallVC.mk' (fun _ => submit_ok K d (kk + 1) (1 + (nn : Int) % 4) ([]) hv.r.small (by decide)) (fun _ => .cons ((.many fun j hj => by (rcases (show j = 0 ∨ j = 1 ∨ j = 2 ∨ j = 3 by omega) with rfl | rfl | rfl | rfl <;> exact CEq.refl _))) (.cons (.one (CEq.refl _)) (.cons (.one (CEq.refl _)) (.cons (.one (CEq.refl _)) .nil)))) ?_
      clear hmy
      have hb1 := hv.n
      have hb2 := hv.r.2.1.1
      generalize subm d (kk + 1) (1 + (nn : Int) % 4) ([]) = y at *
      repeat' first
        | (with_reducible first | refine NeedI.mk (fun h => h) ?_ | refine NeedI.mk (fun h => h.2) ?_ | refine NeedI.mk (fun h => h.1) ?_ | (show Done; exact Done.mk) | refine Both.mk (fun _ => ?_) (fun _ => ?_) | refine Both2.mk (fun _ => ?_) ?_ | (refine Need.mk ?_ ?_; (first | omega | with_reducible exact CEq.refl _ | (dsimp only; omega) | (dsimp only [rng]; omega) | (rw [Int.toNat_natCast]; omega))))
        | ((with_reducible refine Need.mk ?_ ?_); exact CEq.refl _)
        | ((with_reducible fail_if_success first | refine LoopVC.mk ?_ | refine Need.mk ?_ ?_ | refine CallVC.mk ?_ | refine LoopEnd.mk ?_ | refine Out.mk ?_ | show False | refine NeedI.mk ?_ ?_); conv => whnf)
      · rename_i g
        exfalso
        clear hQ
        dsimp only at g
        by_cases hz : y.2.2 = 0
        · have z1 := v3.1 hz
          have z2 := v4 hz
          rw [hz, z2, decide_eq_true (rfl : (0 : Int) = 0), decide_eq_true (show (d.flight.length : Int) < 4 by omega), decide_eq_true (rfl : d.next = d.next)] at g
          exact absurd g (by decide)
        · have z1 : ¬ d.flight.length < 4 := fun x => hz (v3.2 x)
          rw [decide_eq_false hz, decide_eq_false (show ¬ (d.flight.length : Int) < 4 by omega)] at g
          exact absurd g (by simp)
      · rename_i g1 g2
        have g2 := of_decide_eq_true g2
        rw [if_pos g2] at v2
        refine LoopEnd.mk ⟨(i + 1, y.1, told, last), ⟨h0, v1, fun t ht' => ht t (by rw [v2] at ht'; omega)⟩, by show 60 - (i + 1) < 60 - i; omega, ?_⟩
        dsimp only
        rw [← v2]
        (refine Le.of ?_ ?_ <;> repeat' first | exact trivial | exact CEq.refl _ | exact rfl | exact cI (by push_cast; first | rfl | omega) | exact SubE.dat fun _ _ _ _ => CEq.refl _ | refine SubE.var2 ?_ ?_ | refine SubE.var1 ?_ | refine SubE.var3 ?_ ?_ ?_ | refine SubE.var4 ?_ ?_ ?_ ?_ | refine SubE.var5 ?_ ?_ ?_ ?_ ?_ | refine Exists.intro _ (And.intro rfl ?_) | refine And.intro ?_ ?_)
      · rename_i g1 g2
        have g2 := of_decide_eq_false g2
        rw [if_neg g2] at v2
        refine LoopEnd.mk ⟨(i + 1, y.1, told, last), ⟨h0, v1, fun t ht' => ht t (by rw [v2] at ht'; omega)⟩, by show 60 - (i + 1) < 60 - i; omega, ?_⟩
        dsimp only
        rw [← v2]
        (refine Le.of ?_ ?_ <;> repeat' first | exact trivial | exact CEq.refl _ | exact rfl | exact cI (by push_cast; first | rfl | omega) | exact SubE.dat fun _ _ _ _ => CEq.refl _ | refine SubE.var2 ?_ ?_ | refine SubE.var1 ?_ | refine SubE.var3 ?_ ?_ ?_ | refine SubE.var4 ?_ ?_ ?_ ?_ | refine SubE.var5 ?_ ?_ ?_ ?_ ?_ | refine Exists.intro _ (And.intro rfl ?_) | refine And.intro ?_ ?_)
    · refine LoopEnd.mk ⟨(i + 1, d, told, last), ⟨h0, hv.succ, ht⟩, by show 60 - (i + 1) < 60 - i; omega, ?_⟩
      (refine Le.of ?_ ?_ <;> repeat' first | exact trivial | exact CEq.refl _ | exact rfl | exact cI (by push_cast; first | rfl | omega) | exact SubE.dat fun _ _ _ _ => CEq.refl _ | refine SubE.var2 ?_ ?_ | refine SubE.var1 ?_ | refine SubE.var3 ?_ ?_ ?_ | refine SubE.var4 ?_ ?_ ?_ ?_ | refine SubE.var5 ?_ ?_ ?_ ?_ ?_ | refine Exists.intro _ (And.intro rfl ?_) | refine And.intro ?_ ?_)
    · rename_i g1 g2
      have g1 := of_decide_eq_false g1
      have g2 := of_decide_eq_false g2
      have hpos : 0 < d.flight.length := by have : ¬ (d.flight.length : Int) = 0 := g2; omega
      refine Need.mk (by show 0 ≤ (nn : Int) ∧ (0 : Int) < d.flight.length; omega) ?_
      repeat' first
        | (with_reducible first | refine NeedI.mk (fun h => h) ?_ | refine NeedI.mk (fun h => h.2) ?_ | refine NeedI.mk (fun h => h.1) ?_ | (show Done; exact Done.mk) | refine Both.mk (fun _ => ?_) (fun _ => ?_) | refine Both2.mk (fun _ => ?_) ?_ | (refine Need.mk ?_ ?_; (first | omega | with_reducible exact CEq.refl _ | (dsimp only; omega) | (dsimp only [rng]; omega) | (rw [Int.toNat_natCast]; omega))))
        | ((with_reducible refine Need.mk ?_ ?_); exact CEq.refl _)
        | ((with_reducible fail_if_success first | refine LoopVC.mk ?_ | refine Need.mk ?_ ?_ | refine CallVC.mk ?_ | refine LoopEnd.mk ?_ | refine Out.mk ?_ | show False | refine NeedI.mk ?_ ?_); conv => whnf)
      have ha : nn % d.flight.length < d.flight.length := Nat.mod_lt _ hpos
      obtain ⟨a, hae⟩ : ∃ a, nn % d.flight.length = a := ⟨_, rfl⟩
      rw [hae] at ha
      obtain ⟨fault, hfe⟩ : ∃ f, decide (kk = 4) = f := ⟨_, rfl⟩
      rw [hfe]
      obtain ⟨⟨f1, f2, f3, f4, f5, f6, f7, f8⟩, f9, f10⟩ := hv.finish (fault := fault) h0 ha
      have hb1 := hv.n
      refine CallVC.mk' (fun _ => finish_ok K d a fault hv.r.small) (fun _ => .cons ((.many fun j hj => by (rcases (show j = 0 ∨ j = 1 ∨ j = 2 ∨ j = 3 by omega) with rfl | rfl | rfl | rfl <;> exact CEq.refl _))) (.cons (.one (eI (by rw [← hae]; exact (Int.natCast_emod nn d.flight.length).symm))) (.cons (.one (CEq.refl _)) .nil))) ?_
      generalize finD d a fault = y at *
      repeat' first
        | (with_reducible first | refine NeedI.mk (fun h => h) ?_ | refine NeedI.mk (fun h => h.2) ?_ | refine NeedI.mk (fun h => h.1) ?_ | (show Done; exact Done.mk) | refine Both.mk (fun _ => ?_) (fun _ => ?_) | refine Both2.mk (fun _ => ?_) ?_ | (refine Need.mk ?_ ?_; (first | with_reducible exact CEq.refl _)))
        | ((with_reducible fail_if_success first | refine LoopVC.mk ?_ | refine Need.mk ?_ ?_ | refine CallVC.mk ?_ | refine LoopEnd.mk ?_ | refine Out.mk ?_ | show False | refine NeedI.mk ?_ ?_); conv => whnf)
      refine Need.mk (fun _ => ⟨f3, by show y.2.1.ticket < 61; omega⟩) ?_
      repeat' first
        | (with_reducible first | refine NeedI.mk (fun h => h) ?_ | refine NeedI.mk (fun h => h.2) ?_ | refine NeedI.mk (fun h => h.1) ?_ | (show Done; exact Done.mk) | refine Both.mk (fun _ => ?_) (fun _ => ?_) | refine Both2.mk (fun _ => ?_) ?_ | (refine Need.mk ?_ ?_; (first | with_reducible exact CEq.refl _)))
        | ((with_reducible fail_if_success first | refine LoopVC.mk ?_ | refine Need.mk ?_ ?_ | refine CallVC.mk ?_ | refine LoopEnd.mk ?_ | refine Out.mk ?_ | show False | refine NeedI.mk ?_ ?_); conv => whnf)
      refine Need.mk (fun _ => by show y.2.1.ticket.toNat < 61; omega) ?_
      repeat' first
        | (with_reducible first | refine NeedI.mk (fun h => h) ?_ | refine NeedI.mk (fun h => h.2) ?_ | refine NeedI.mk (fun h => h.1) ?_ | (show Done; exact Done.mk) | refine Both.mk (fun _ => ?_) (fun _ => ?_) | refine Both2.mk (fun _ => ?_) ?_ | (refine Need.mk ?_ ?_; (first | with_reducible exact CEq.refl _)))
        | ((with_reducible fail_if_success first | refine LoopVC.mk ?_ | refine Need.mk ?_ ?_ | refine CallVC.mk ?_ | refine LoopEnd.mk ?_ | refine Out.mk ?_ | show False | refine NeedI.mk ?_ ?_); conv => whnf)
      · rename_i g
        exfalso
        clear hQ f9 f10
        dsimp only at g
        rw [decide_eq_false (show ¬ y.2.1.ticket < 0 by omega), decide_eq_false (show ¬ d.next ≤ y.2.1.ticket by omega), f5, f6, hfe] at g
        cases fault <;> simp at g
      refine Need.mk ⟨f3, by show y.2.1.ticket < 61; omega⟩ ?_
      repeat' first
        | (with_reducible first | refine NeedI.mk (fun h => h) ?_ | refine NeedI.mk (fun h => h.2) ?_ | refine NeedI.mk (fun h => h.1) ?_ | (show Done; exact Done.mk) | refine Both.mk (fun _ => ?_) (fun _ => ?_) | refine Both2.mk (fun _ => ?_) ?_ | (refine Need.mk ?_ ?_; (first | with_reducible exact CEq.refl _)))
        | ((with_reducible fail_if_success first | refine LoopVC.mk ?_ | refine Need.mk ?_ ?_ | refine CallVC.mk ?_ | refine LoopEnd.mk ?_ | refine Out.mk ?_ | show False | refine NeedI.mk ?_ ?_); conv => whnf)
      refine Need.mk (by show y.2.1.ticket.toNat < 61; omega) ?_
      have hri : rng .i64 ((i : Int) + 1) := by simp only [rng]; omega
      have hpn : y.2.1.page.toNat < 5 := by omega
      repeat' first
        | (with_reducible first | refine NeedI.mk (fun h => h) ?_ | refine NeedI.mk (fun h => h.2) ?_ | refine NeedI.mk (fun h => h.1) ?_ | (show Done; exact Done.mk) | refine Both.mk (fun _ => ?_) (fun _ => ?_) | refine Both2.mk (fun _ => ?_) ?_ | (refine Need.mk ?_ ?_; (first | with_reducible exact CEq.refl _ | omega)))
        | ((with_reducible fail_if_success first | refine LoopVC.mk ?_ | refine Need.mk ?_ ?_ | refine CallVC.mk ?_ | refine LoopEnd.mk ?_ | refine Out.mk ?_ | show False | refine NeedI.mk ?_ ?_); conv => whnf)
      · rename_i g
        have hft : fault = true := by
          cases fault with
          | true => rfl
          | false =>
            rw [f6] at g
            simp at g
            omega
        clear g
        generalize hT : (fun t : Nat => if t = y.2.1.ticket.toNat then true else told t) = told2 at f10
        generalize hL : (fun p : Nat => if fault = false ∧ y.2.1.kind = 2 ∧ p = y.2.1.page.toNat then y.2.1.data else last p) = last2 at f10
        refine LoopEnd.mk ⟨(i + 1, y.1, told2, last2), ⟨h0, f10, fun t ht' => ?_⟩, by show 60 - (i + 1) < 60 - i; omega, ?_⟩
        · have ht' : y.1.next ≤ t := ht'
          show told2 t = false
          rw [← hT]
          show (if t = y.2.1.ticket.toNat then true else told t) = false
          rw [if_neg (by omega)]
          exact ht t (by rw [f1] at ht'; exact ht')
        dsimp only
        rw [f1]
        clear hQ f2 f3 f4 f5 f6 f7 f8 f9 f10 hv ht
        (refine Le.of ?_ ?_ <;> repeat' first | exact trivial | exact CEq.refl _ | exact rfl | exact cI (by push_cast; first | rfl | omega) | exact SubE.dat fun _ _ _ _ => CEq.refl _ | refine SubE.var2 ?_ ?_ | refine SubE.var1 ?_ | refine SubE.var3 ?_ ?_ ?_ | refine SubE.var4 ?_ ?_ ?_ ?_ | refine SubE.var5 ?_ ?_ ?_ ?_ ?_ | refine Exists.intro _ (And.intro rfl ?_) | refine And.intro ?_ ?_)
        · exact SubE.dat fun r hr j hj => by
            have hj : j < 1 := hj
            obtain rfl : j = 0 := by omega
            rw [updC_at, ← hT]
            show CEq (if r = y.2.1.ticket.toNat then .bool true else .bool (told r)) (.bool (if r = y.2.1.ticket.toNat then true else told r))
            split <;> exact CEq.refl _
        · exact SubE.dat fun r hr j hj => by
            rw [← hL]
            show CEq (.str (last r)) (.str (if fault = false ∧ y.2.1.kind = 2 ∧ r = y.2.1.page.toNat then y.2.1.data else last r))
            rw [if_neg (by rw [hft]; simp)]
            exact CEq.refl _
      · rename_i g g2
        have g2 := of_decide_eq_true g2
        have hff : fault = false := by
          cases fault with
          | false => rfl
          | true => rw [f6] at g; simp at g
        clear g
        refine Need.mk (fun _ => hpn) ?_
        generalize hU : updC _ y.2.1.page.toNat 0 _ = U
        have hU0 : (EC.dat U).at y.2.1.page.toNat 0 = .c (.str y.2.1.data) := by
          rw [← hU]
          show AV.c (updC _ _ 0 _ _ 0) = _
          rw [updC_at, if_pos rfl]
        rw [hU0]
        repeat' first
          | (with_reducible first | refine NeedI.mk (fun h => h) ?_ | refine NeedI.mk (fun h => h.2) ?_ | refine NeedI.mk (fun h => h.1) ?_ | (show Done; exact Done.mk) | refine Both.mk (fun _ => ?_) (fun _ => ?_) | refine Both2.mk (fun _ => ?_) ?_ | (refine Need.mk ?_ ?_; (first | with_reducible exact CEq.refl _)))
          | ((with_reducible fail_if_success first | refine LoopVC.mk ?_ | refine Need.mk ?_ ?_ | refine CallVC.mk ?_ | refine LoopEnd.mk ?_ | refine Out.mk ?_ | show False | refine NeedI.mk ?_ ?_); conv => whnf)
        refine Need.mk (fun _ => ⟨f7, by show y.2.1.page < 5; omega⟩) ?_
        repeat' first
          | (with_reducible first | refine NeedI.mk (fun h => h) ?_ | refine NeedI.mk (fun h => h.2) ?_ | refine NeedI.mk (fun h => h.1) ?_ | (show Done; exact Done.mk) | refine Both.mk (fun _ => ?_) (fun _ => ?_) | refine Both2.mk (fun _ => ?_) ?_ | (refine Need.mk ?_ ?_; (first | with_reducible exact CEq.refl _)))
          | ((with_reducible fail_if_success first | refine LoopVC.mk ?_ | refine Need.mk ?_ ?_ | refine CallVC.mk ?_ | refine LoopEnd.mk ?_ | refine Out.mk ?_ | show False | refine NeedI.mk ?_ ?_); conv => whnf)
        refine Need.mk (fun _ => hpn) ?_
        rw [hU0]
        repeat' first
          | (with_reducible first | refine NeedI.mk (fun h => h) ?_ | refine NeedI.mk (fun h => h.2) ?_ | refine NeedI.mk (fun h => h.1) ?_ | (show Done; exact Done.mk) | refine Both.mk (fun _ => ?_) (fun _ => ?_) | refine Both2.mk (fun _ => ?_) ?_ | (refine Need.mk ?_ ?_; (first | with_reducible exact CEq.refl _)))
          | ((with_reducible fail_if_success first | refine LoopVC.mk ?_ | refine Need.mk ?_ ?_ | refine CallVC.mk ?_ | refine LoopEnd.mk ?_ | refine Out.mk ?_ | show False | refine NeedI.mk ?_ ?_); conv => whnf)
        · rename_i g
          exfalso
          rw [decide_eq_false (show ¬ y.2.1.kind = 1 by omega)] at g
          simp at g
        refine Need.mk hri ?_
        repeat' first
          | (with_reducible first | refine NeedI.mk (fun h => h) ?_ | refine NeedI.mk (fun h => h.2) ?_ | refine NeedI.mk (fun h => h.1) ?_ | (show Done; exact Done.mk) | refine Both.mk (fun _ => ?_) (fun _ => ?_) | refine Both2.mk (fun _ => ?_) ?_ | (refine Need.mk ?_ ?_; (first | with_reducible exact CEq.refl _)))
          | ((with_reducible fail_if_success first | refine LoopVC.mk ?_ | refine Need.mk ?_ ?_ | refine CallVC.mk ?_ | refine LoopEnd.mk ?_ | refine Out.mk ?_ | show False | refine NeedI.mk ?_ ?_); conv => whnf)
        rename_i g
        clear g hU0
        generalize hT : (fun t : Nat => if t = y.2.1.ticket.toNat then true else told t) = told2 at f10
        generalize hL : (fun p : Nat => if fault = false ∧ y.2.1.kind = 2 ∧ p = y.2.1.page.toNat then y.2.1.data else last p) = last2 at f10
        refine LoopEnd.mk ⟨(i + 1, y.1, told2, last2), ⟨h0, f10, fun t ht' => ?_⟩, by show 60 - (i + 1) < 60 - i; omega, ?_⟩
        · have ht' : y.1.next ≤ t := ht'
          show told2 t = false
          rw [← hT]
          show (if t = y.2.1.ticket.toNat then true else told t) = false
          rw [if_neg (by omega)]
          exact ht t (by rw [f1] at ht'; exact ht')
        dsimp only
        rw [f1]
        clear hQ f2 f3 f4 f5 f6 f7 f8 f9 f10 hv ht
        (refine Le.of ?_ ?_ <;> repeat' first | exact trivial | exact CEq.refl _ | exact rfl | exact cI (by push_cast; first | rfl | omega) | exact SubE.dat fun _ _ _ _ => CEq.refl _ | refine SubE.var2 ?_ ?_ | refine SubE.var1 ?_ | refine SubE.var3 ?_ ?_ ?_ | refine SubE.var4 ?_ ?_ ?_ ?_ | refine SubE.var5 ?_ ?_ ?_ ?_ ?_ | refine Exists.intro _ (And.intro rfl ?_) | refine And.intro ?_ ?_)
        · exact SubE.dat fun r hr j hj => by
            have hj : j < 1 := hj
            obtain rfl : j = 0 := by omega
            rw [updC_at, ← hT]
            show CEq (if r = y.2.1.ticket.toNat then .bool true else .bool (told r)) (.bool (if r = y.2.1.ticket.toNat then true else told r))
            split <;> exact CEq.refl _
        · exact SubE.dat fun r hr j hj => by
            have hj : j < 1 := hj
            obtain rfl : j = 0 := by omega
            rw [← hU, updC_at, ← hL]
            show CEq (if r = y.2.1.page.toNat then .str y.2.1.data else .str (last r)) (.str (if fault = false ∧ y.2.1.kind = 2 ∧ r = y.2.1.page.toNat then y.2.1.data else last r))
            by_cases e : r = y.2.1.page.toNat
            · rw [if_pos e, if_pos ⟨hff, g2, e⟩]; exact CEq.refl _
            · rw [if_neg e, if_neg (fun x => e x.2.2)]; exact CEq.refl _
      · rename_i g g2
        have g2 := of_decide_eq_false g2
        have hff : fault = false := by
          cases fault with
          | false => rfl
          | true => rw [f6] at g; simp at g
        clear g
        refine Need.mk (fun _ => hpn) ?_
        repeat' first
          | (with_reducible first | refine NeedI.mk (fun h => h) ?_ | refine NeedI.mk (fun h => h.2) ?_ | refine NeedI.mk (fun h => h.1) ?_ | (show Done; exact Done.mk) | refine Both.mk (fun _ => ?_) (fun _ => ?_) | refine Both2.mk (fun _ => ?_) ?_ | (refine Need.mk ?_ ?_; (first | with_reducible exact CEq.refl _)))
          | ((with_reducible fail_if_success first | refine LoopVC.mk ?_ | refine Need.mk ?_ ?_ | refine CallVC.mk ?_ | refine LoopEnd.mk ?_ | refine Out.mk ?_ | show False | refine NeedI.mk ?_ ?_); conv => whnf)
        refine Need.mk (fun _ => ⟨f7, by show y.2.1.page < 5; omega⟩) ?_
        repeat' first
          | (with_reducible first | refine NeedI.mk (fun h => h) ?_ | refine NeedI.mk (fun h => h.2) ?_ | refine NeedI.mk (fun h => h.1) ?_ | (show Done; exact Done.mk) | refine Both.mk (fun _ => ?_) (fun _ => ?_) | refine Both2.mk (fun _ => ?_) ?_ | (refine Need.mk ?_ ?_; (first | with_reducible exact CEq.refl _)))
          | ((with_reducible fail_if_success first | refine LoopVC.mk ?_ | refine Need.mk ?_ ?_ | refine CallVC.mk ?_ | refine LoopEnd.mk ?_ | refine Out.mk ?_ | show False | refine NeedI.mk ?_ ?_); conv => whnf)
        refine Need.mk (fun _ => hpn) ?_
        repeat' first
          | (with_reducible first | refine NeedI.mk (fun h => h) ?_ | refine NeedI.mk (fun h => h.2) ?_ | refine NeedI.mk (fun h => h.1) ?_ | (show Done; exact Done.mk) | refine Both.mk (fun _ => ?_) (fun _ => ?_) | refine Both2.mk (fun _ => ?_) ?_ | (refine Need.mk ?_ ?_; (first | with_reducible exact CEq.refl _)))
          | ((with_reducible fail_if_success first | refine LoopVC.mk ?_ | refine Need.mk ?_ ?_ | refine CallVC.mk ?_ | refine LoopEnd.mk ?_ | refine Out.mk ?_ | show False | refine NeedI.mk ?_ ?_); conv => whnf)
        · rename_i g
          exfalso
          simp only [Bool.and_eq_true, decide_eq_true_eq, Bool.not_eq_true', decide_eq_false_iff_not] at g
          exact g.2 (f9 hff g.1.1 g.1.2)
        refine Need.mk hri ?_
        repeat' first
          | (with_reducible first | refine NeedI.mk (fun h => h) ?_ | refine NeedI.mk (fun h => h.2) ?_ | refine NeedI.mk (fun h => h.1) ?_ | (show Done; exact Done.mk) | refine Both.mk (fun _ => ?_) (fun _ => ?_) | refine Both2.mk (fun _ => ?_) ?_ | (refine Need.mk ?_ ?_; (first | with_reducible exact CEq.refl _)))
          | ((with_reducible fail_if_success first | refine LoopVC.mk ?_ | refine Need.mk ?_ ?_ | refine CallVC.mk ?_ | refine LoopEnd.mk ?_ | refine Out.mk ?_ | show False | refine NeedI.mk ?_ ?_); conv => whnf)
        rename_i g
        clear g
        generalize hT : (fun t : Nat => if t = y.2.1.ticket.toNat then true else told t) = told2 at f10
        generalize hL : (fun p : Nat => if fault = false ∧ y.2.1.kind = 2 ∧ p = y.2.1.page.toNat then y.2.1.data else last p) = last2 at f10
        refine LoopEnd.mk ⟨(i + 1, y.1, told2, last2), ⟨h0, f10, fun t ht' => ?_⟩, by show 60 - (i + 1) < 60 - i; omega, ?_⟩
        · have ht' : y.1.next ≤ t := ht'
          show told2 t = false
          rw [← hT]
          show (if t = y.2.1.ticket.toNat then true else told t) = false
          rw [if_neg (by omega)]
          exact ht t (by rw [f1] at ht'; exact ht')
        dsimp only
        rw [f1]
        clear hQ f2 f3 f4 f5 f6 f7 f8 f9 f10 hv ht
        (refine Le.of ?_ ?_ <;> repeat' first | exact trivial | exact CEq.refl _ | exact rfl | exact cI (by push_cast; first | rfl | omega) | exact SubE.dat fun _ _ _ _ => CEq.refl _ | refine SubE.var2 ?_ ?_ | refine SubE.var1 ?_ | refine SubE.var3 ?_ ?_ ?_ | refine SubE.var4 ?_ ?_ ?_ ?_ | refine SubE.var5 ?_ ?_ ?_ ?_ ?_ | refine Exists.intro _ (And.intro rfl ?_) | refine And.intro ?_ ?_)
        · exact SubE.dat fun r hr j hj => by
            have hj : j < 1 := hj
            obtain rfl : j = 0 := by omega
            rw [updC_at, ← hT]
            show CEq (if r = y.2.1.ticket.toNat then .bool true else .bool (told r)) (.bool (if r = y.2.1.ticket.toNat then true else told r))
            split <;> exact CEq.refl _
        · exact SubE.dat fun r hr j hj => by
            rw [← hL]
            show CEq (.str (last r)) (.str (if fault = false ∧ y.2.1.kind = 2 ∧ r = y.2.1.page.toNat then y.2.1.data else last r))
            rw [if_neg (fun x => g2 x.2.1)]
            exact CEq.refl _
  · refine Out.mk (hQ _ _ ?_)
    repeat' first
      | (with_reducible first | refine NeedI.mk (fun h => h) ?_ | refine NeedI.mk (fun h => h.2) ?_ | refine NeedI.mk (fun h => h.1) ?_ | (show Done; exact Done.mk) | refine Both.mk (fun _ => ?_) (fun _ => ?_) | refine Both2.mk (fun _ => ?_) ?_ | (refine Need.mk ?_ ?_; (first | omega | with_reducible exact CEq.refl _ | (dsimp only; omega) | (dsimp only [rng]; omega) | (rw [Int.toNat_natCast]; omega))))
      | ((with_reducible refine Need.mk ?_ ?_); exact CEq.refl _)
      | ((with_reducible fail_if_success first | refine LoopVC.mk ?_ | refine Need.mk ?_ ?_ | refine CallVC.mk ?_ | refine LoopEnd.mk ?_ | refine Out.mk ?_ | show False | refine NeedI.mk ?_ ?_); conv => whnf)
    refine CallVC.mk' (fun _ => awake_ok L) (fun _ => .nil) ?_
    repeat' first
      | (with_reducible first | refine NeedI.mk (fun h => h) ?_ | refine NeedI.mk (fun h => h.2) ?_ | refine NeedI.mk (fun h => h.1) ?_ | (show Done; exact Done.mk) | refine Both.mk (fun _ => ?_) (fun _ => ?_) | refine Both2.mk (fun _ => ?_) ?_ | (refine Need.mk ?_ ?_; (first | omega | with_reducible exact CEq.refl _ | (dsimp only; omega) | (dsimp only [rng]; omega) | (rw [Int.toNat_natCast]; omega))))
      | ((with_reducible refine Need.mk ?_ ?_); exact CEq.refl _)
      | ((with_reducible fail_if_success first | refine LoopVC.mk ?_ | refine Need.mk ?_ ?_ | refine CallVC.mk ?_ | refine LoopEnd.mk ?_ | refine Out.mk ?_ | show False | refine NeedI.mk ?_ ?_); conv => whnf)
end
end Lk.S04
