/-
  Chapter 12: disk.New, whose sectors are the caller's own; calm.
-/
import Derived.Test.YtihjalnebgjmgaaW12r
namespace Lk.S12
open Go Lk Lk.C Lk.S03

def newR (n : Nat) (j : Nat) : RCell :=
  match j with
  | 0 => .ow 1 n (fun _ _ => .str zs)
  | _ => .im (slL 2 wrE [])

section
variable {P : Program} {F : Nat → Nat}

set_option maxHeartbeats 8000000 in
set_option maxRecDepth 100000 in
theorem newO_ok (hm : P.follows .mixedOrders = true) (hk : disk_New_k P F) (m : Nat) (hm1 : 1 ≤ m) (hm2 : m ≤ 64) (hrep : FnOk P (F 49) [.one (.str [0]), .one (.int .i64 16)] [.one (.im (.str (List.replicate 16 0)))]) :
    FnOk P (F 28) [.one (.int .i64 m)] [.many 2 (newR m), .one (.im (.int .i64 0))] := by
  refine fnOk hm hk ?_
  repeat' first
    | with_reducible refine NeedI.mk (fun h => h) ?_
    | with_reducible refine NeedI.mk (fun h => h.2) ?_
    | with_reducible refine NeedI.mk (fun h => h.1) ?_
    | with_reducible exact Done.mk
    | with_reducible refine Both.mk (fun _ => ?_) (fun _ => ?_)
    | with_reducible refine Both2.mk (fun _ => ?_) ?_
    | with_reducible refine Need.mk (by first | omega | with_reducible exact CEq.refl _) ?_
    | (fail_if_success with_reducible refine LoopVC.mk ?_
       fail_if_success with_reducible refine Need.mk ?_ ?_
       fail_if_success with_reducible refine CallVC.mk ?_
       fail_if_success with_reducible refine LoopEnd.mk ?_
       fail_if_success with_reducible refine Out.mk ?_
       fail_if_success with_reducible show False
       fail_if_success with_reducible refine NeedI.mk ?_ ?_
       conv => whnf)
  · rename_i h
    simp only [Bool.or_eq_true, decide_eq_true_eq] at h
    omega
  · rename_i h
    repeat' first
      | with_reducible refine NeedI.mk (fun h => h) ?_
      | with_reducible refine NeedI.mk (fun h => h.2) ?_
      | with_reducible refine NeedI.mk (fun h => h.1) ?_
      | with_reducible exact Done.mk
      | with_reducible refine Both.mk (fun _ => ?_) (fun _ => ?_)
      | with_reducible refine Both2.mk (fun _ => ?_) ?_
      | with_reducible refine Need.mk (by first | (simp only [decide_eq_true_eq, decide_eq_false_iff_not, Bool.or_eq_true, Bool.and_eq_true, Bool.or_eq_false_iff, Int.toNat_natCast, addN_eq, cond_false, cond_true, rng] at *; omega) | with_reducible exact CEq.refl _) ?_
      | (fail_if_success with_reducible refine LoopVC.mk ?_
         fail_if_success with_reducible refine Need.mk ?_ ?_
         fail_if_success with_reducible refine CallVC.mk ?_
         fail_if_success with_reducible refine LoopEnd.mk ?_
         fail_if_success with_reducible refine Out.mk ?_
         fail_if_success with_reducible show False
         fail_if_success with_reducible refine NeedI.mk ?_ ?_
         conv => whnf)
    refine LoopVC.of (X := {i : Nat // i ≤ m}) (fun i => stL [(2, .va 2 0 0), (4, .os 14 0 1 0 m), (16, .c (.int .i64 m)), (17, .c (.int .i64 i.1))]
      [(2, vE [.nil 1, .nil 2]), (14, ⟨1, m, .dat fun r _ => .str (if r < i.1 then List.replicate 16 0 else []), false, true⟩)])
      (fun i => m - i.1) ⟨0, Nat.zero_le _⟩ (Le.of ⟨⟨rfl, rfl, rfl⟩, ⟨rfl, rfl, rfl, rfl, rfl⟩, CEq.refl _, rfl, trivial⟩ ⟨⟨_, rfl, SubE.var2 trivial trivial⟩, ⟨_, rfl, SubE.dat fun i hi j hj => ?_⟩, trivial⟩) ?_
    · obtain rfl : j = 0 := by omega
      exact eS (by rw [if_neg (by show ¬ i < 0; omega)])
    rintro Q hQ ⟨i, hi⟩
    repeat' first
      | with_reducible refine NeedI.mk (fun h => h) ?_
      | with_reducible refine NeedI.mk (fun h => h.2) ?_
      | with_reducible refine NeedI.mk (fun h => h.1) ?_
      | with_reducible exact Done.mk
      | with_reducible refine Both.mk (fun _ => ?_) (fun _ => ?_)
      | with_reducible refine Both2.mk (fun _ => ?_) ?_
      | with_reducible refine Need.mk (by first | (simp only [decide_eq_true_eq, decide_eq_false_iff_not, Bool.or_eq_true, Bool.and_eq_true, Bool.or_eq_false_iff, Int.toNat_natCast, addN_eq, cond_false, cond_true, rng] at *; omega) | with_reducible exact CEq.refl _) ?_
      | (fail_if_success with_reducible refine LoopVC.mk ?_
         fail_if_success with_reducible refine Need.mk ?_ ?_
         fail_if_success with_reducible refine CallVC.mk ?_
         fail_if_success with_reducible refine LoopEnd.mk ?_
         fail_if_success with_reducible refine Out.mk ?_
         fail_if_success with_reducible show False
         fail_if_success with_reducible refine NeedI.mk ?_ ?_
         conv => whnf)
    · rename_i h3
      simp only [decide_eq_true_eq] at h3
      refine CallVC.mk' (fun _ => hrep) (fun _ => .cons (.one (CEq.refl _)) (.cons (.one (CEq.refl _)) .nil)) ?_
      repeat' first
        | with_reducible refine NeedI.mk (fun h => h) ?_
        | with_reducible refine NeedI.mk (fun h => h.2) ?_
        | with_reducible refine NeedI.mk (fun h => h.1) ?_
        | with_reducible exact Done.mk
        | with_reducible refine Both.mk (fun _ => ?_) (fun _ => ?_)
        | with_reducible refine Both2.mk (fun _ => ?_) ?_
        | with_reducible refine Need.mk (by first | (simp only [decide_eq_true_eq, decide_eq_false_iff_not, Bool.or_eq_true, Bool.and_eq_true, Bool.or_eq_false_iff, Int.toNat_natCast, addN_eq, cond_false, cond_true, rng] at *; omega) | with_reducible exact CEq.refl _) ?_
        | (fail_if_success with_reducible refine LoopVC.mk ?_
           fail_if_success with_reducible refine Need.mk ?_ ?_
           fail_if_success with_reducible refine CallVC.mk ?_
           fail_if_success with_reducible refine LoopEnd.mk ?_
           fail_if_success with_reducible refine Out.mk ?_
           fail_if_success with_reducible show False
           fail_if_success with_reducible refine NeedI.mk ?_ ?_
           conv => whnf)
      refine LoopEnd.mk ⟨⟨i + 1, by omega⟩, by show m - (i + 1) < m - i; omega, Le.of ⟨⟨rfl, rfl, rfl⟩, ⟨rfl, rfl, rfl, rfl, rfl⟩, CEq.refl _, cI (by simp), trivial⟩ ⟨⟨_, rfl, SubE.var2 trivial trivial⟩, ⟨_, rfl, SubE.dat fun k hk j hj => ?_⟩, trivial⟩⟩
      obtain rfl : j = 0 := by have hj : j < 1 := hj; omega
      rw [updC_at]
      show CEq _ (Cell.str (if k < i + 1 then List.replicate 16 0 else []))
      simp only [addN_eq, Nat.zero_add, Int.toNat_natCast]
      by_cases hki : k = i
      · rw [if_pos ⟨hki, trivial⟩, if_pos (by omega)]; exact CEq.refl _
      · rw [if_neg (fun h => hki h.1)]
        exact eS (by show (if k < i then _ else _) = _; congr 1; apply propext; omega)
    · rename_i h3
      simp only [decide_eq_false_iff_not] at h3
      obtain rfl : i = m := by omega
      refine Out.mk (hQ _ _ ?_)
      repeat' first
        | with_reducible refine NeedI.mk (fun h => h) ?_
        | with_reducible refine NeedI.mk (fun h => h.2) ?_
        | with_reducible refine NeedI.mk (fun h => h.1) ?_
        | with_reducible exact Done.mk
        | with_reducible refine Both.mk (fun _ => ?_) (fun _ => ?_)
        | with_reducible refine Both2.mk (fun _ => ?_) ?_
        | with_reducible refine Need.mk (by first | omega | with_reducible exact CEq.refl _ | (dsimp only; omega) | (dsimp only [rng]; omega) | (simp only [decide_eq_true_eq, decide_eq_false_iff_not, Bool.or_eq_true, Bool.and_eq_true, Bool.or_eq_false_iff, Int.toNat_natCast, addN_eq, cond_false, cond_true, rng] at *; omega) | exact ⟨rfl, rfl⟩) ?_
        | ((with_reducible refine Need.mk ?_ ?_); exact CEq.refl _)
        | (fail_if_success with_reducible refine LoopVC.mk ?_
           fail_if_success with_reducible refine Need.mk ?_ ?_
           fail_if_success with_reducible refine CallVC.mk ?_
           fail_if_success with_reducible refine LoopEnd.mk ?_
           fail_if_success with_reducible refine Out.mk ?_
           fail_if_success with_reducible show False
           fail_if_success with_reducible refine NeedI.mk ?_ ?_
           conv => whnf)
      refine Need.mk ceq_nil ?_
      repeat' first
        | with_reducible refine NeedI.mk (fun h => h) ?_
        | with_reducible refine NeedI.mk (fun h => h.2) ?_
        | with_reducible refine NeedI.mk (fun h => h.1) ?_
        | with_reducible exact Done.mk
        | with_reducible refine Both.mk (fun _ => ?_) (fun _ => ?_)
        | with_reducible refine Both2.mk (fun _ => ?_) ?_
        | with_reducible refine Need.mk (by first | omega | with_reducible exact CEq.refl _ | (dsimp only; omega) | (dsimp only [rng]; omega) | (simp only [decide_eq_true_eq, decide_eq_false_iff_not, Bool.or_eq_true, Bool.and_eq_true, Bool.or_eq_false_iff, Int.toNat_natCast, addN_eq, cond_false, cond_true, rng] at *; omega) | exact ⟨rfl, rfl⟩) ?_
        | ((with_reducible refine Need.mk ?_ ?_); exact CEq.refl _)
        | (fail_if_success with_reducible refine LoopVC.mk ?_
           fail_if_success with_reducible refine Need.mk ?_ ?_
           fail_if_success with_reducible refine CallVC.mk ?_
           fail_if_success with_reducible refine LoopEnd.mk ?_
           fail_if_success with_reducible refine Out.mk ?_
           fail_if_success with_reducible show False
           fail_if_success with_reducible refine NeedI.mk ?_ ?_
           conv => whnf)
      refine Need.mk (fun r hr j hj => ?_) ?_
      · show CEq (.str (if r < i then List.replicate 16 0 else [])) (.str zs)
        rw [if_pos hr]; exact CEq.refl _
      repeat' first
        | with_reducible refine NeedI.mk (fun h => h) ?_
        | with_reducible refine NeedI.mk (fun h => h.2) ?_
        | with_reducible refine NeedI.mk (fun h => h.1) ?_
        | with_reducible exact Done.mk
        | with_reducible refine Both.mk (fun _ => ?_) (fun _ => ?_)
        | with_reducible refine Both2.mk (fun _ => ?_) ?_
        | with_reducible refine Need.mk (by first | omega | with_reducible exact CEq.refl _ | (dsimp only; omega) | (dsimp only [rng]; omega) | (simp only [decide_eq_true_eq, decide_eq_false_iff_not, Bool.or_eq_true, Bool.and_eq_true, Bool.or_eq_false_iff, Int.toNat_natCast, addN_eq, cond_false, cond_true, rng] at *; omega) | exact ⟨rfl, rfl⟩) ?_
        | ((with_reducible refine Need.mk ?_ ?_); exact CEq.refl _)
        | (fail_if_success with_reducible refine LoopVC.mk ?_
           fail_if_success with_reducible refine Need.mk ?_ ?_
           fail_if_success with_reducible refine CallVC.mk ?_
           fail_if_success with_reducible refine LoopEnd.mk ?_
           fail_if_success with_reducible refine Out.mk ?_
           fail_if_success with_reducible show False
           fail_if_success with_reducible refine NeedI.mk ?_ ?_
           conv => whnf)

/-- A calm disk of these pages, the first k of them laid. -/
def calmS (pages : List (List UInt8)) : Nat → List (List UInt8)
  | 0 => List.replicate 35 zs
  | k + 1 => let s := pages.getD k default
    if k < 16 ∧ s.length = 32 then ((calmS pages k).set (2 * k + 3) (s.take 16)).set (2 * k + 4) (s.drop 16) else calmS pages k
def calmD (pages : List (List UInt8)) : Dsk := ⟨calmS pages pages.length, []⟩
theorem calm0 {pages : List (List UInt8)} {k : Nat} (h : k < 35) : (calmS pages 0).getD k default = zs := by
  unfold calmS
  rw [getD_eq (by rw [List.length_replicate]; exact h)]; exact List.getElem_replicate ..
theorem calmS_yes {pages : List (List UInt8)} {k : Nat} (h1 : k < 16) (h2 : (pages.getD k default).length = 32) : calmS pages (k + 1) = ((calmS pages k).set (2 * k + 3) ((pages.getD k default).take 16)).set (2 * k + 4) ((pages.getD k default).drop 16) := by
  rw [calmS]; exact if_pos ⟨h1, h2⟩
theorem calmS_no {pages : List (List UInt8)} {k : Nat} (h : ¬ (k < 16 ∧ (pages.getD k default).length = 32)) : calmS pages (k + 1) = calmS pages k := by
  rw [calmS]; exact if_neg h
theorem calmS_len {pages : List (List UInt8)} : ∀ {k : Nat}, (calmS pages k).length = 35
  | 0 => by unfold calmS; simp
  | k + 1 => by
    unfold calmS
    dsimp only
    split
    · rw [List.length_set, List.length_set]; exact calmS_len
    · exact calmS_len
theorem set_mem {α : Type} {l : List α} {i : Nat} {x y : α} (h : y ∈ l.set i x) : y ∈ l ∨ y = x := by
  rcases List.mem_or_eq_of_mem_set h with h | h
  · exact .inl h
  · exact .inr h
theorem calmS_16 {pages : List (List UInt8)} : ∀ {k : Nat}, ∀ s ∈ calmS pages k, s.length = 16
  | 0 => by intro s hs; unfold calmS at hs; rw [List.eq_of_mem_replicate hs]; rfl
  | k + 1 => by
    unfold calmS
    dsimp only
    split
    · rename_i h
      intro s hs
      rcases set_mem hs with hs | rfl
      · rcases set_mem hs with hs | rfl
        · exact calmS_16 s hs
        · rw [List.length_take]; omega
      · rw [List.length_drop]; omega
    · exact calmS_16
theorem calmS_0 {pages : List (List UInt8)} : ∀ {k i : Nat}, i ≤ 2 → (calmS pages k).getD i default = zs
  | 0, i, hi => by
    rcases (show i = 0 ∨ i = 1 ∨ i = 2 by omega) with rfl | rfl | rfl <;> rfl
  | k + 1, i, hi => by
    unfold calmS
    dsimp only
    split
    · rename_i h
      rw [set_getD (by rw [List.length_set, calmS_len]; omega), if_neg (by omega), set_getD (by rw [calmS_len]; omega), if_neg (by omega)]
      exact calmS_0 hi
    · exact calmS_0 hi
theorem calmD_calm {pages : List (List UInt8)} : Calm (calmD pages) :=
  ⟨⟨by show 1 ≤ (calmS pages pages.length).length; rw [calmS_len]; decide, by show (calmS pages pages.length).length ≤ 64; rw [calmS_len]; decide, by show 0 ≤ 200; decide, calmS_16, fun w hw => by cases hw⟩, calmS_len, rfl⟩
theorem calmD_0 {pages : List (List UInt8)} : (calmD pages).read 0 = zs := by
  rw [read_calm rfl]; exact calmS_0 (by omega)

set_option maxHeartbeats 8000000 in
set_option maxRecDepth 100000 in
theorem calm_ok (K : KDisk P F) (hk : law12_calm_k P F) (pages : List (List UInt8)) (hl : pages.length ≤ 9223372036854775807) : FnOk P (F 109) [.one (slL 1 strE pages)] [.many 2 (fun j => .im (dskE (calmD pages) j))] := by
  refine fnOk K.m hk ?_
  repeat' first
    | with_reducible refine NeedI.mk (fun h => h) ?_
    | with_reducible refine NeedI.mk (fun h => h.2) ?_
    | with_reducible refine NeedI.mk (fun h => h.1) ?_
    | with_reducible exact Done.mk
    | with_reducible refine Both.mk (fun _ => ?_) (fun _ => ?_)
    | with_reducible refine Both2.mk (fun _ => ?_) ?_
    | with_reducible refine Need.mk (by first | omega | with_reducible exact CEq.refl _ | (dsimp only; omega) | (dsimp only [rng]; omega) | (simp only [decide_eq_true_eq, decide_eq_false_iff_not, Bool.or_eq_true, Bool.and_eq_true, Bool.or_eq_false_iff, Int.toNat_natCast, addN_eq, cond_false, cond_true, rng] at *; omega) | exact ⟨rfl, rfl⟩) ?_
    | ((with_reducible refine Need.mk ?_ ?_); exact CEq.refl _)
    | (fail_if_success with_reducible refine LoopVC.mk ?_
       fail_if_success with_reducible refine Need.mk ?_ ?_
       fail_if_success with_reducible refine CallVC.mk ?_
       fail_if_success with_reducible refine LoopEnd.mk ?_
       fail_if_success with_reducible refine Out.mk ?_
       fail_if_success with_reducible show False
       fail_if_success with_reducible refine NeedI.mk ?_ ?_
       conv => whnf)
  refine CallVC.mk' (fun _ => newO_ok K.m K.new 35 (by decide) (by decide) K.rep) (fun _ => .cons (.one (CEq.refl _)) .nil) ?_
  repeat' first
    | with_reducible refine NeedI.mk (fun h => h) ?_
    | with_reducible refine NeedI.mk (fun h => h.2) ?_
    | with_reducible refine NeedI.mk (fun h => h.1) ?_
    | with_reducible exact Done.mk
    | with_reducible refine Both.mk (fun _ => ?_) (fun _ => ?_)
    | with_reducible refine Both2.mk (fun _ => ?_) ?_
    | with_reducible refine Need.mk (by first | omega | with_reducible exact CEq.refl _ | (dsimp only; omega) | (dsimp only [rng]; omega) | (simp only [decide_eq_true_eq, decide_eq_false_iff_not, Bool.or_eq_true, Bool.and_eq_true, Bool.or_eq_false_iff, Int.toNat_natCast, addN_eq, cond_false, cond_true, rng] at *; omega) | exact ⟨rfl, rfl⟩) ?_
    | ((with_reducible refine Need.mk ?_ ?_); exact CEq.refl _)
    | (fail_if_success with_reducible refine LoopVC.mk ?_
       fail_if_success with_reducible refine Need.mk ?_ ?_
       fail_if_success with_reducible refine CallVC.mk ?_
       fail_if_success with_reducible refine LoopEnd.mk ?_
       fail_if_success with_reducible refine Out.mk ?_
       fail_if_success with_reducible show False
       fail_if_success with_reducible refine NeedI.mk ?_ ?_
       conv => whnf)
  · rename_i h; exfalso; simp at h
  · skip
    refine LoopVC.inv (fun i : Nat => i ≤ pages.length) (fun i => stL [(2, .va 2 0 0), (3, .va 3 0 0), (16, .c (slL 1 strE pages)), (17, .c (.int .i64 pages.length)), (18, .c (.int .i64 i))]
      [(2, vE [.nil 1, .nil 2]), (3, vE [.os 1008 0 1 0 35, .c (slL 2 wrE [])]), (1008, ⟨1, 35, .dat fun r j => strE ((calmS pages i).getD r default) j, false, true⟩)]) (fun i => pages.length - i) 0 (Nat.zero_le _) ?_ ?_
    · (refine Le.of ?_ ?_ <;> repeat' first | exact trivial | exact CEq.refl _ | exact rfl | exact cI (by push_cast; first | rfl | omega) | exact SubE.dat fun _ _ _ _ => CEq.refl _ | refine SubE.var2 ?_ ?_ | refine SubE.var1 ?_ | refine SubE.var3 ?_ ?_ ?_ | refine SubE.var4 ?_ ?_ ?_ ?_ | refine SubE.var5 ?_ ?_ ?_ ?_ ?_ | refine Exists.intro _ (And.intro rfl ?_) | refine And.intro ?_ ?_)
      exact SubE.dat fun k hk j hj => eS (calm0 hk).symm
    rintro Q hQ i hi
    repeat' first
      | with_reducible refine NeedI.mk (fun h => h) ?_
      | with_reducible refine NeedI.mk (fun h => h.2) ?_
      | with_reducible refine NeedI.mk (fun h => h.1) ?_
      | with_reducible exact Done.mk
      | with_reducible refine Both.mk (fun _ => ?_) (fun _ => ?_)
      | with_reducible refine Both2.mk (fun _ => ?_) ?_
      | with_reducible refine Need.mk (by first | omega | with_reducible exact CEq.refl _ | (dsimp only; omega) | (dsimp only [rng]; omega) | (simp only [decide_eq_true_eq, decide_eq_false_iff_not, Bool.or_eq_true, Bool.and_eq_true, Bool.or_eq_false_iff, Int.toNat_natCast, addN_eq, cond_false, cond_true, rng] at *; omega) | exact ⟨rfl, rfl⟩) ?_
      | ((with_reducible refine Need.mk ?_ ?_); exact CEq.refl _)
      | (fail_if_success with_reducible refine LoopVC.mk ?_
         fail_if_success with_reducible refine Need.mk ?_ ?_
         fail_if_success with_reducible refine CallVC.mk ?_
         fail_if_success with_reducible refine LoopEnd.mk ?_
         fail_if_success with_reducible refine Out.mk ?_
         fail_if_success with_reducible show False
         fail_if_success with_reducible refine NeedI.mk ?_ ?_
         conv => whnf)
    · rename_i h3 h4
      simp only [Bool.and_eq_true, decide_eq_true_eq, Int.toNat_natCast] at h3 h4
      refine LoopEnd.mk ⟨i + 1, by omega, by omega, ?_⟩
      rw [calmS_yes (by omega) (by omega)]
      (refine Le.of ?_ ?_ <;> repeat' first | exact trivial | exact CEq.refl _ | exact rfl | exact cI (by push_cast; first | rfl | omega) | exact SubE.dat fun _ _ _ _ => CEq.refl _ | refine SubE.var2 ?_ ?_ | refine SubE.var1 ?_ | refine SubE.var3 ?_ ?_ ?_ | refine SubE.var4 ?_ ?_ ?_ ?_ | refine SubE.var5 ?_ ?_ ?_ ?_ ?_ | refine Exists.intro _ (And.intro rfl ?_) | refine And.intro ?_ ?_)
      refine SubE.dat fun k hk j hj => ?_
      obtain rfl : j = 0 := by have hj : j < 1 := hj; omega
      rw [updC_at, updC_at, set_getD (by rw [List.length_set, calmS_len]; omega), set_getD (by rw [calmS_len]; omega), addN_eq, addN_eq, Int.toNat_natCast]
      have e3 : 0 + (2 * (i : Int) + 3).toNat = 2 * i + 3 := by omega
      have e4 : 0 + (2 * (i : Int) + 4).toNat = 2 * i + 4 := by omega
      rw [e3, e4]
      by_cases k4 : k = 2 * i + 4
      · rw [if_pos (show k = 2 * i + 4 ∧ 0 = 0 from ⟨k4, rfl⟩), if_pos (show 2 * i + 4 = k from k4.symm)]; exact CEq.refl _
      · rw [if_neg (show ¬ (k = 2 * i + 4 ∧ 0 = 0) from fun x => k4 x.1), if_neg (show ¬ (2 * i + 4 = k) from fun x => k4 x.symm)]
        by_cases k3 : k = 2 * i + 3
        · rw [if_pos (show k = 2 * i + 3 ∧ 0 = 0 from ⟨k3, rfl⟩), if_pos (show 2 * i + 3 = k from k3.symm)]; exact CEq.refl _
        · rw [if_neg (show ¬ (k = 2 * i + 3 ∧ 0 = 0) from fun x => k3 x.1), if_neg (show ¬ (2 * i + 3 = k) from fun x => k3 x.symm)]; exact CEq.refl _
    · rename_i h3 h4
      simp only [Bool.and_eq_false_iff, decide_eq_true_eq, decide_eq_false_iff_not, Int.toNat_natCast] at h3 h4
      refine LoopEnd.mk ⟨i + 1, by omega, by omega, ?_⟩
      rw [calmS_no (by omega)]
      (refine Le.of ?_ ?_ <;> repeat' first | exact trivial | exact CEq.refl _ | exact rfl | exact cI (by push_cast; first | rfl | omega) | exact SubE.dat fun _ _ _ _ => CEq.refl _ | refine SubE.var2 ?_ ?_ | refine SubE.var1 ?_ | refine SubE.var3 ?_ ?_ ?_ | refine SubE.var4 ?_ ?_ ?_ ?_ | refine SubE.var5 ?_ ?_ ?_ ?_ ?_ | refine Exists.intro _ (And.intro rfl ?_) | refine And.intro ?_ ?_)
    · rename_i h3
      have h3 : ¬ (i : Int) < pages.length := of_decide_eq_false h3
      obtain rfl : i = pages.length := by omega
      refine Out.mk (hQ _ _ ?_)
      repeat' first
        | with_reducible refine NeedI.mk (fun h => h) ?_
        | with_reducible refine NeedI.mk (fun h => h.2) ?_
        | with_reducible refine NeedI.mk (fun h => h.1) ?_
        | with_reducible exact Done.mk
        | with_reducible refine Both.mk (fun _ => ?_) (fun _ => ?_)
        | with_reducible refine Both2.mk (fun _ => ?_) ?_
        | with_reducible refine Need.mk (by first | omega | with_reducible exact CEq.refl _ | (dsimp only; omega) | (dsimp only [rng]; omega) | (simp only [decide_eq_true_eq, decide_eq_false_iff_not, Bool.or_eq_true, Bool.and_eq_true, Bool.or_eq_false_iff, Int.toNat_natCast, addN_eq, cond_false, cond_true, rng] at *; omega) | exact ⟨rfl, rfl⟩) ?_
        | ((with_reducible refine Need.mk ?_ ?_); exact CEq.refl _)
        | (fail_if_success with_reducible refine LoopVC.mk ?_
           fail_if_success with_reducible refine Need.mk ?_ ?_
           fail_if_success with_reducible refine CallVC.mk ?_
           fail_if_success with_reducible refine LoopEnd.mk ?_
           fail_if_success with_reducible refine Out.mk ?_
           fail_if_success with_reducible show False
           fail_if_success with_reducible refine NeedI.mk ?_ ?_
           conv => whnf)
      refine Need.mk (IsL.refl.off.ceq calmS_len.symm) ?_
      repeat' first
        | with_reducible refine NeedI.mk (fun h => h) ?_
        | with_reducible refine NeedI.mk (fun h => h.2) ?_
        | with_reducible refine NeedI.mk (fun h => h.1) ?_
        | with_reducible exact Done.mk
        | with_reducible refine Both.mk (fun _ => ?_) (fun _ => ?_)
        | with_reducible refine Both2.mk (fun _ => ?_) ?_
        | with_reducible refine Need.mk (by first | omega | with_reducible exact CEq.refl _ | (dsimp only; omega) | (dsimp only [rng]; omega) | (simp only [decide_eq_true_eq, decide_eq_false_iff_not, Bool.or_eq_true, Bool.and_eq_true, Bool.or_eq_false_iff, Int.toNat_natCast, addN_eq, cond_false, cond_true, rng] at *; omega) | exact ⟨rfl, rfl⟩) ?_
        | ((with_reducible refine Need.mk ?_ ?_); exact CEq.refl _)
        | (fail_if_success with_reducible refine LoopVC.mk ?_
           fail_if_success with_reducible refine Need.mk ?_ ?_
           fail_if_success with_reducible refine CallVC.mk ?_
           fail_if_success with_reducible refine LoopEnd.mk ?_
           fail_if_success with_reducible refine Out.mk ?_
           fail_if_success with_reducible show False
           fail_if_success with_reducible refine NeedI.mk ?_ ?_
           conv => whnf)

theorem oldP_iff_cases {d was : Dsk} {p : Nat} {data : List UInt8} : oldP d was p data → d.secs.length = 35 ∧ d.cache.length = 0 ∧ d.secs.getD 0 [] = was.secs.getD 0 [] := fun h => ⟨h.1, by rw [h.2.1]; rfl, h.2.2.1⟩

set_option maxHeartbeats 8000000 in
set_option maxRecDepth 100000 in
theorem old_ok (K : KJ P F) (hk : law12_old_k P F) (d was : Dsk) (p : Nat) (data : List UInt8) (hd : Calm d) (hw : Calm was) (hp : p ≤ 100) (h : oldP d was p data) : FnOk P (F 115) [.many 2 (dskE d), .many 2 (dskE was), .one (.int .i64 p), .one (.str data)] [.one (.im (.bool true))] := by
  refine fnOk K.k.m hk ?_
  have hdn := hd.n
  have hwn := hw.n
  have h0 : d.secs.getD 0 [] = was.secs.getD 0 [] := h.2.2.1
  repeat' first
    | with_reducible refine NeedI.mk (fun h => h) ?_
    | with_reducible refine NeedI.mk (fun h => h.2) ?_
    | with_reducible refine NeedI.mk (fun h => h.1) ?_
    | with_reducible exact Done.mk
    | with_reducible refine Both.mk (fun _ => ?_) (fun _ => ?_)
    | with_reducible refine Both2.mk (fun _ => ?_) ?_
    | with_reducible refine Need.mk (by first | omega | with_reducible exact CEq.refl _ | (dsimp only; omega) | (dsimp only [rng]; omega) | (simp only [decide_eq_true_eq, decide_eq_false_iff_not, Bool.or_eq_true, Bool.and_eq_true, Bool.or_eq_false_iff, Int.toNat_natCast, addN_eq, cond_false, cond_true, rng] at *; omega) | exact ⟨rfl, rfl⟩) ?_
    | ((with_reducible refine Need.mk ?_ ?_); exact CEq.refl _)
    | (fail_if_success with_reducible refine LoopVC.mk ?_
       fail_if_success with_reducible refine Need.mk ?_ ?_
       fail_if_success with_reducible refine CallVC.mk ?_
       fail_if_success with_reducible refine LoopEnd.mk ?_
       fail_if_success with_reducible refine Out.mk ?_
       fail_if_success with_reducible show False
       fail_if_success with_reducible refine NeedI.mk ?_ ?_
       conv => whnf)
  · rename_i h5
    exfalso
    have h0' : d.secs.getD (Int.toNat 0) default = was.secs.getD (Int.toNat 0) default := h0
    rw [h0', hd.c, hdn] at h5
    simp at h5
  · skip
    refine LoopVC.inv (fun i : Nat => i ≤ 16) (fun i => stL [(2, .c (.int .i64 p)), (3, .c (.str data)), (4, .va 4 0 0), (5, .va 5 0 0), (9, .c (.int .i64 (i + 1)))]
      [(4, vE [.c (slL 1 strE d.secs), .c (slL 2 wrE d.cache)]), (5, vE [.c (slL 1 strE was.secs), .c (slL 2 wrE was.cache)])]) (fun i => 16 - i) 0 (Nat.zero_le _) ?_ ?_
    · (refine Le.of ?_ ?_ <;> repeat' first | exact trivial | exact CEq.refl _ | exact rfl | exact cI (by push_cast; first | rfl | omega) | exact SubE.dat fun _ _ _ _ => CEq.refl _ | refine SubE.var2 ?_ ?_ | refine SubE.var1 ?_ | refine SubE.var3 ?_ ?_ ?_ | refine SubE.var4 ?_ ?_ ?_ ?_ | refine SubE.var5 ?_ ?_ ?_ ?_ ?_ | refine Exists.intro _ (And.intro rfl ?_) | refine And.intro ?_ ?_)
    rintro Q hQ i hi
    repeat' first
      | with_reducible refine NeedI.mk (fun h => h) ?_
      | with_reducible refine NeedI.mk (fun h => h.2) ?_
      | with_reducible refine NeedI.mk (fun h => h.1) ?_
      | with_reducible exact Done.mk
      | with_reducible refine Both.mk (fun _ => ?_) (fun _ => ?_)
      | with_reducible refine Both2.mk (fun _ => ?_) ?_
      | with_reducible refine Need.mk (by first | omega | with_reducible exact CEq.refl _ | (dsimp only; omega) | (dsimp only [rng]; omega) | (simp only [decide_eq_true_eq, decide_eq_false_iff_not, Bool.or_eq_true, Bool.and_eq_true, Bool.or_eq_false_iff, Int.toNat_natCast, addN_eq, cond_false, cond_true, rng] at *; omega) | exact ⟨rfl, rfl⟩) ?_
      | ((with_reducible refine Need.mk ?_ ?_); exact CEq.refl _)
      | (fail_if_success with_reducible refine LoopVC.mk ?_
         fail_if_success with_reducible refine Need.mk ?_ ?_
         fail_if_success with_reducible refine CallVC.mk ?_
         fail_if_success with_reducible refine LoopEnd.mk ?_
         fail_if_success with_reducible refine Out.mk ?_
         fail_if_success with_reducible show False
         fail_if_success with_reducible refine NeedI.mk ?_ ?_
         conv => whnf)
    · rename_i h3
      have h3 : ((i : Int) + 1) ≤ 16 := of_decide_eq_true h3
      refine CallVC.mk' (fun _ => get_ok K d ((i + 1 : Nat) : Int) hd.small) (fun _ => .cons ((.many fun j hj => by (rcases (show j = 0 ∨ j = 1 by omega) with rfl | rfl <;> exact CEq.refl _))) (.cons (.one (eI (by push_cast; rfl))) .nil)) ?_
      have hq := h.2.2.2 (i + 1) (by omega) (by omega)
      generalize get d ((i + 1 : Nat) : Int) = g at *
      obtain ⟨gs, ge⟩ := g
      obtain ⟨hg0, hg1⟩ := hq
      have hg0 : ge = 0 := hg0
      have hg1 : gs = was.secs.getD (2 * (i + 1) + 1) [] ++ was.secs.getD (2 * (i + 1) + 2) [] ∨ (i + 1 = p ∧ gs = data) := hg1
      subst hg0
      have e1 : (2 * ((i : Int) + 1) + 1).toNat = 2 * (i + 1) + 1 := by omega
      have e2 : (2 * ((i : Int) + 1) + 2).toNat = 2 * (i + 1) + 2 := by omega
      have l1 := hw.r.2.2.2.1 _ (getD_mem (show 2 * (i + 1) + 1 < was.secs.length by omega))
      have l2 := hw.r.2.2.2.1 _ (getD_mem (show 2 * (i + 1) + 2 < was.secs.length by omega))
      repeat' first
        | with_reducible refine NeedI.mk (fun h => h) ?_
        | with_reducible refine NeedI.mk (fun h => h.2) ?_
        | with_reducible refine NeedI.mk (fun h => h.1) ?_
        | with_reducible exact Done.mk
        | with_reducible refine Both.mk (fun _ => ?_) (fun _ => ?_)
        | with_reducible refine Both2.mk (fun _ => ?_) ?_
        | with_reducible refine Need.mk (by first | omega | with_reducible exact CEq.refl _ | (dsimp only; omega) | (dsimp only [rng]; omega) | (simp only [decide_eq_true_eq, decide_eq_false_iff_not, Bool.or_eq_true, Bool.and_eq_true, Bool.or_eq_false_iff, Int.toNat_natCast, addN_eq, cond_false, cond_true, rng] at *; omega) | exact ⟨rfl, rfl⟩) ?_
        | ((with_reducible refine Need.mk ?_ ?_); exact CEq.refl _)
        | (fail_if_success with_reducible refine LoopVC.mk ?_
           fail_if_success with_reducible refine Need.mk ?_ ?_
           fail_if_success with_reducible refine CallVC.mk ?_
           fail_if_success with_reducible refine LoopEnd.mk ?_
           fail_if_success with_reducible refine Out.mk ?_
           fail_if_success with_reducible show False
           fail_if_success with_reducible refine NeedI.mk ?_ ?_
           conv => whnf)
      refine Need.mk (by rw [e1, e2]; omega) ?_
      repeat' first
        | with_reducible refine NeedI.mk (fun h => h) ?_
        | with_reducible refine NeedI.mk (fun h => h.2) ?_
        | with_reducible refine NeedI.mk (fun h => h.1) ?_
        | with_reducible exact Done.mk
        | with_reducible refine Both.mk (fun _ => ?_) (fun _ => ?_)
        | with_reducible refine Both2.mk (fun _ => ?_) ?_
        | with_reducible refine Need.mk (by first | omega | with_reducible exact CEq.refl _ | (dsimp only; omega) | (dsimp only [rng]; omega) | (simp only [decide_eq_true_eq, decide_eq_false_iff_not, Bool.or_eq_true, Bool.and_eq_true, Bool.or_eq_false_iff, Int.toNat_natCast, addN_eq, cond_false, cond_true, rng] at *; omega) | exact ⟨rfl, rfl⟩) ?_
        | ((with_reducible refine Need.mk ?_ ?_); exact CEq.refl _)
        | (fail_if_success with_reducible refine LoopVC.mk ?_
           fail_if_success with_reducible refine Need.mk ?_ ?_
           fail_if_success with_reducible refine CallVC.mk ?_
           fail_if_success with_reducible refine LoopEnd.mk ?_
           fail_if_success with_reducible refine Out.mk ?_
           fail_if_success with_reducible show False
           fail_if_success with_reducible refine NeedI.mk ?_ ?_
           conv => whnf)
      · rename_i h5
        exfalso
        rw [e1, e2] at h5
        simp only [Bool.or_eq_true, Bool.and_eq_true, Bool.not_eq_true', decide_eq_false_iff_not] at h5
        rcases h5 with h5 | ⟨h5, h6⟩
        · simp at h5
        · rcases hg1 with x | ⟨x, y⟩
          · exact h5 x
          · exact h6.elim (fun z => z (by omega)) (fun z => z y)
      · skip
        refine LoopEnd.mk ⟨i + 1, by omega, by omega, ?_⟩
        (refine Le.of ?_ ?_ <;> repeat' first | exact trivial | exact CEq.refl _ | exact rfl | exact cI (by push_cast; first | rfl | omega) | exact SubE.dat fun _ _ _ _ => CEq.refl _ | refine SubE.var2 ?_ ?_ | refine SubE.var1 ?_ | refine SubE.var3 ?_ ?_ ?_ | refine SubE.var4 ?_ ?_ ?_ ?_ | refine SubE.var5 ?_ ?_ ?_ ?_ ?_ | refine Exists.intro _ (And.intro rfl ?_) | refine And.intro ?_ ?_)
    · skip
      refine Out.mk (hQ _ _ ?_)
      repeat' first
        | with_reducible refine NeedI.mk (fun h => h) ?_
        | with_reducible refine NeedI.mk (fun h => h.2) ?_
        | with_reducible refine NeedI.mk (fun h => h.1) ?_
        | with_reducible exact Done.mk
        | with_reducible refine Both.mk (fun _ => ?_) (fun _ => ?_)
        | with_reducible refine Both2.mk (fun _ => ?_) ?_
        | with_reducible refine Need.mk (by first | omega | with_reducible exact CEq.refl _ | (dsimp only; omega) | (dsimp only [rng]; omega) | (simp only [decide_eq_true_eq, decide_eq_false_iff_not, Bool.or_eq_true, Bool.and_eq_true, Bool.or_eq_false_iff, Int.toNat_natCast, addN_eq, cond_false, cond_true, rng] at *; omega) | exact ⟨rfl, rfl⟩) ?_
        | ((with_reducible refine Need.mk ?_ ?_); exact CEq.refl _)
        | (fail_if_success with_reducible refine LoopVC.mk ?_
           fail_if_success with_reducible refine Need.mk ?_ ?_
           fail_if_success with_reducible refine CallVC.mk ?_
           fail_if_success with_reducible refine LoopEnd.mk ?_
           fail_if_success with_reducible refine Out.mk ?_
           fail_if_success with_reducible show False
           fail_if_success with_reducible refine NeedI.mk ?_ ?_
           conv => whnf)
end
end Lk.S12
