/-
  Chapter 3: DiskFull.
-/
import Derived.Test.YtebbledmaegfpaaW03l
namespace Lk.S03
open Go Lk Lk.C

def zN (n : Nat) : List (List UInt8) := List.replicate n zs
def fw (n i : Nat) : Wr := ⟨((i % n : Nat) : Int), lets i⟩
def fD (n i : Nat) : Dsk := ⟨zN n, mapR (fw n) i⟩
theorem zN_len (n : Nat) : (zN n).length = n := by unfold zN; simp
theorem fD_right {n i : Nat} (hn : 1 ≤ n) (hn2 : n ≤ 64) (hi : i ≤ 200) : right (fD n i) := by
  refine ⟨by show 1 ≤ (zN n).length; rw [zN_len]; exact hn, by show (zN n).length ≤ 64; rw [zN_len]; exact hn2, by show (mapR _ _).length ≤ 200; rw [mapR_len]; exact hi, ?_, ?_⟩
  · intro s hs
    have : s = zs := List.eq_of_mem_replicate hs
    subst this; rfl
  · intro w hw
    obtain ⟨j, _, rfl⟩ := List.mem_map.1 hw
    have := Nat.mod_lt j (show n > 0 by omega)
    exact ⟨by show (0 : Int) ≤ ((j % n : Nat) : Int); omega, by show ((j % n : Nat) : Int) < ((zN n).length : Int); rw [zN_len]; omega, lets_len _⟩
theorem fD_put {n i : Nat} (hn : 1 ≤ n) (hn2 : n ≤ 64) (hi : i < 200) : (fD n i).put (fw n i) = fD n (i + 1) ∧ (fD n i).putE (fw n i) = 0 := by
  have hr := fD_right hn hn2 (Nat.le_of_lt hi)
  have hm := Nat.mod_lt i (show n > 0 by omega)
  have hf : fits (fD n i) (fw n i) := ⟨by show (0 : Int) ≤ ((i % n : Nat) : Int); omega, by show ((i % n : Nat) : Int) < ((zN n).length : Int); rw [zN_len]; omega, lets_len _⟩
  have hc : (fD n i).cache.length < 200 := by show (mapR _ _).length < 200; rw [mapR_len]; exact hi
  refine ⟨?_, by unfold Dsk.putE; rw [if_pos ⟨hr, hf⟩]; exact if_pos hc⟩
  unfold Dsk.put
  rw [if_pos ⟨hr, hf, hc⟩]
  show Dsk.mk _ _ = Dsk.mk _ _
  rw [mapR_succ]; rfl
theorem fits0 {d : Dsk} (h : right d) : fits d ⟨0, lets 1⟩ := ⟨by show (0 : Int) ≤ 0; omega, by show (0 : Int) < _; have := h.1; omega, lets_len _⟩
theorem full_put {n : Nat} (hn : 1 ≤ n) (hn2 : n ≤ 64) : (fD n 200).put ⟨0, lets 1⟩ = fD n 200 ∧ (fD n 200).putE ⟨0, lets 1⟩ = 7 := by
  have hr := fD_right hn hn2 (Nat.le_refl _)
  have hc : ¬ (fD n 200).cache.length < 200 := by show ¬ (mapR _ _).length < 200; rw [mapR_len]; omega
  exact ⟨by unfold Dsk.put; exact if_neg fun x => hc x.2.2, by unfold Dsk.putE; rw [if_pos ⟨hr, fits0 hr⟩]; exact if_neg hc⟩

section
variable {P : Program} {F : Nat → Nat}

set_option maxHeartbeats 8000000 in
set_option maxRecDepth 100000 in
theorem diskFull_law (L : KLaw P F) (R : KRef P F) (hl : law03_letters_k P F) (hk : law03_DiskFull_k P F) (m : UInt8) :
    FnOk P (F 47) [.one (.int .u8 m.toNat)] [.one (.im (.bool true))] := by
  refine fnOk L.k.m hk ?_
  have K := L.k
  have hmod : (m.toNat : Int) % 64 = ((m.toNat % 64 : Nat) : Int) := by push_cast; rfl
  have hm6 : m.toNat % 64 < 64 := Nat.mod_lt _ (by omega)
  repeat' first
    | with_reducible refine NeedI.mk (fun h => h) ?_
    | with_reducible refine NeedI.mk (fun h => h.2) ?_
    | with_reducible refine NeedI.mk (fun h => h.1) ?_
    | with_reducible exact Done.mk
    | with_reducible refine Both.mk (fun _ => ?_) (fun _ => ?_)
    | with_reducible refine Both2.mk (fun _ => ?_) ?_
    | with_reducible refine Need.mk (by first | omega | with_reducible exact CEq.refl _) ?_
    | (fail_if_success with_reducible refine LoopVC.mk ?_
       fail_if_success with_reducible refine Need.mk ?_ ?_
       fail_if_success with_reducible refine CallVC.mk ?_
       fail_if_success with_reducible refine LoopEnd.mk ?_
       fail_if_success with_reducible refine Out.mk ?_
       fail_if_success with_reducible show False
       fail_if_success with_reducible refine NeedI.mk ?_ ?_
       conv => whnf)
  refine Need.mk (by simp only [rng]; omega) ?_
  rw [hmod]
  generalize m.toNat % 64 = q at *
  repeat' first
    | with_reducible refine NeedI.mk (fun h => h) ?_
    | with_reducible refine NeedI.mk (fun h => h.2) ?_
    | with_reducible refine NeedI.mk (fun h => h.1) ?_
    | with_reducible exact Done.mk
    | with_reducible refine Both.mk (fun _ => ?_) (fun _ => ?_)
    | with_reducible refine Both2.mk (fun _ => ?_) ?_
    | with_reducible refine Need.mk (by first | omega | with_reducible exact CEq.refl _ | (simp only [decide_eq_true_eq, decide_eq_false_iff_not, Bool.or_eq_true, Bool.and_eq_true, Bool.or_eq_false_iff, Int.toNat_natCast, addN_eq, cond_false, cond_true, rng] at *; omega)) ?_
    | (fail_if_success with_reducible refine LoopVC.mk ?_
       fail_if_success with_reducible refine Need.mk ?_ ?_
       fail_if_success with_reducible refine CallVC.mk ?_
       fail_if_success with_reducible refine LoopEnd.mk ?_
       fail_if_success with_reducible refine Out.mk ?_
       fail_if_success with_reducible show False
       fail_if_success with_reducible refine NeedI.mk ?_ ?_
       conv => whnf)
  refine CallVC.mk' (fun _ => new_ok K.m K.new (1 + (q : Int)) K.rep) (fun _ => .cons (.one (CEq.refl _)) .nil) ?_
  have en : newD (1 + (q : Int)) = fD (1 + q) 0 := by
    unfold newD
    rw [if_pos (by omega), show (1 + (q : Int)).toNat = 1 + q by omega]; rfl
  have ee : newE (1 + (q : Int)) = 0 := by unfold newE; exact if_pos (by omega)
  rw [en, ee]
  have hn1 : 1 ≤ 1 + q := by omega
  have hn2 : 1 + q ≤ 64 := by omega
  generalize 1 + q = n at *
  repeat' first
    | with_reducible refine NeedI.mk (fun h => h) ?_
    | with_reducible refine NeedI.mk (fun h => h.2) ?_
    | with_reducible refine NeedI.mk (fun h => h.1) ?_
    | with_reducible exact Done.mk
    | with_reducible refine Both.mk (fun _ => ?_) (fun _ => ?_)
    | with_reducible refine Both2.mk (fun _ => ?_) ?_
    | with_reducible refine Need.mk (by first | omega | with_reducible exact CEq.refl _ | (simp only [decide_eq_true_eq, decide_eq_false_iff_not, Bool.or_eq_true, Bool.and_eq_true, Bool.or_eq_false_iff, Int.toNat_natCast, addN_eq, cond_false, cond_true, rng] at *; omega)) ?_
    | (fail_if_success with_reducible refine LoopVC.mk ?_
       fail_if_success with_reducible refine Need.mk ?_ ?_
       fail_if_success with_reducible refine CallVC.mk ?_
       fail_if_success with_reducible refine LoopEnd.mk ?_
       fail_if_success with_reducible refine Out.mk ?_
       fail_if_success with_reducible show False
       fail_if_success with_reducible refine NeedI.mk ?_ ?_
       conv => whnf)
  refine LoopVC.inv (fun i : Nat => i ≤ 200) (fun i => stL [(3, .va 3 0 0), (4, .c (.int .i64 0)), (20, .c (.int .i64 i))]
      [(3, vE [.c (slL 1 strE (zN n)), .c (slL 2 wrE (mapR (fw n) i))])])
    (fun i => 200 - i) 0 (Nat.zero_le _) ?_ ?_
  · refine Le.of ⟨⟨rfl, rfl, rfl⟩, rfl, rfl, trivial⟩ ⟨⟨_, rfl, SubE.var2 (CEq.refl _) (CEq.refl _)⟩, trivial⟩
  rintro Q hQ i hi
  repeat' first
    | with_reducible refine NeedI.mk (fun h => h) ?_
    | with_reducible refine NeedI.mk (fun h => h.2) ?_
    | with_reducible refine NeedI.mk (fun h => h.1) ?_
    | with_reducible exact Done.mk
    | with_reducible refine Both.mk (fun _ => ?_) (fun _ => ?_)
    | with_reducible refine Both2.mk (fun _ => ?_) ?_
    | with_reducible refine Need.mk (by first | omega | with_reducible exact CEq.refl _ | (simp only [decide_eq_true_eq, decide_eq_false_iff_not, Bool.or_eq_true, Bool.and_eq_true, Bool.or_eq_false_iff, Int.toNat_natCast, addN_eq, cond_false, cond_true, rng] at *; omega)) ?_
    | (fail_if_success with_reducible refine LoopVC.mk ?_
       fail_if_success with_reducible refine Need.mk ?_ ?_
       fail_if_success with_reducible refine CallVC.mk ?_
       fail_if_success with_reducible refine LoopEnd.mk ?_
       fail_if_success with_reducible refine Out.mk ?_
       fail_if_success with_reducible show False
       fail_if_success with_reducible refine NeedI.mk ?_ ?_
       conv => whnf)
  · rename_i h3
    simp only [decide_eq_true_eq] at h3
    have hw : wrapI .u8 (i : Int) = (i : Int) := by
      simp [wrapI_eq, IntKind.wrap, IntKind.signed, IntKind.bits]
      omega
    rw [hw]
    refine CallVC.mk' (fun _ => letters_ok K.m hl i (by omega)) (fun _ => .cons (.one (CEq.refl _)) .nil) ?_
    repeat' first
      | with_reducible refine NeedI.mk (fun h => h) ?_
      | with_reducible refine NeedI.mk (fun h => h.2) ?_
      | with_reducible refine NeedI.mk (fun h => h.1) ?_
      | with_reducible exact Done.mk
      | with_reducible refine Both.mk (fun _ => ?_) (fun _ => ?_)
      | with_reducible refine Both2.mk (fun _ => ?_) ?_
      | with_reducible refine Need.mk (by first | omega | with_reducible exact CEq.refl _ | (simp only [decide_eq_true_eq, decide_eq_false_iff_not, Bool.or_eq_true, Bool.and_eq_true, Bool.or_eq_false_iff, Int.toNat_natCast, addN_eq, cond_false, cond_true, rng] at *; omega)) ?_
      | (fail_if_success with_reducible refine LoopVC.mk ?_
         fail_if_success with_reducible refine Need.mk ?_ ?_
         fail_if_success with_reducible refine CallVC.mk ?_
         fail_if_success with_reducible refine LoopEnd.mk ?_
         fail_if_success with_reducible refine Out.mk ?_
         fail_if_success with_reducible show False
         fail_if_success with_reducible refine NeedI.mk ?_ ?_
         conv => whnf)
    have fr := fD_right hn1 hn2 (Nat.le_of_lt (show i < 200 by omega))
    have fs := fr.small
    have fp := fD_put hn1 hn2 (show i < 200 by omega)
    refine CallVC.mk' (fun _ => put_ok K.m K.put K.right K.fits K.cloneW (fD n i) (fw n i) fs.s fs.c fs.ls fs.lc (by show (lets i).length ≤ _; rw [lets_len]; omega)) (fun _ => .cons ((.many fun j hj => by (rcases (show j = 0 ∨ j = 1 by omega) with rfl | rfl <;> exact CEq.refl _))) (.cons (.many fun j hj => ?_) .nil)) ?_
    · rcases (show j = 0 ∨ j = 1 by omega) with rfl | rfl
      · refine eI ?_
        show (i : Int) % max ((zN n).length : Int) 1 = ((i % n : Nat) : Int)
        rw [zN_len, show max (n : Int) 1 = n by omega]
        push_cast; rfl
      · exact CEq.refl _
    rw [fp.1, fp.2]
    repeat' first
      | with_reducible refine NeedI.mk (fun h => h) ?_
      | with_reducible refine NeedI.mk (fun h => h.2) ?_
      | with_reducible refine NeedI.mk (fun h => h.1) ?_
      | with_reducible exact Done.mk
      | with_reducible refine Both.mk (fun _ => ?_) (fun _ => ?_)
      | with_reducible refine Both2.mk (fun _ => ?_) ?_
      | with_reducible refine Need.mk (by first | omega | with_reducible exact CEq.refl _ | (simp only [decide_eq_true_eq, decide_eq_false_iff_not, Bool.or_eq_true, Bool.and_eq_true, Bool.or_eq_false_iff, Int.toNat_natCast, addN_eq, cond_false, cond_true, rng] at *; omega)) ?_
      | (fail_if_success with_reducible refine LoopVC.mk ?_
         fail_if_success with_reducible refine Need.mk ?_ ?_
         fail_if_success with_reducible refine CallVC.mk ?_
         fail_if_success with_reducible refine LoopEnd.mk ?_
         fail_if_success with_reducible refine Out.mk ?_
         fail_if_success with_reducible show False
         fail_if_success with_reducible refine NeedI.mk ?_ ?_
         conv => whnf)
    · rename_i h5; exact absurd h5 (by decide)
    refine LoopEnd.mk ⟨i + 1, by omega, by omega, ?_⟩
    refine Le.of ⟨⟨rfl, rfl, rfl⟩, rfl, cI (by simp), trivial⟩ ⟨⟨_, rfl, SubE.var2 (CEq.refl _) (CEq.refl _)⟩, trivial⟩
  · rename_i h3
    simp only [decide_eq_false_iff_not] at h3
    obtain rfl : i = 200 := by omega
    have fr := fD_right hn1 hn2 (Nat.le_refl 200)
    have fs := fr.small
    have fp := full_put hn1 hn2
    have fl : (fD n 200).cache.length = 200 := mapR_len _ _
    have fsr := fr.sync
    have fss := fsr.small
    have fc := sync_cache fr
    refine Out.mk (hQ _ _ ?_)
    repeat' first
      | with_reducible refine NeedI.mk (fun h => h) ?_
      | with_reducible refine NeedI.mk (fun h => h.2) ?_
      | with_reducible refine NeedI.mk (fun h => h.1) ?_
      | with_reducible exact Done.mk
      | with_reducible refine Both.mk (fun _ => ?_) (fun _ => ?_)
      | with_reducible refine Both2.mk (fun _ => ?_) ?_
      | with_reducible refine Need.mk (by with_reducible exact Nat.le_of_eq (Nat.zero_add _)) ?_
      | (fail_if_success with_reducible refine LoopVC.mk ?_
         fail_if_success with_reducible refine Need.mk ?_ ?_
         fail_if_success with_reducible refine CallVC.mk ?_
         fail_if_success with_reducible refine LoopEnd.mk ?_
         fail_if_success with_reducible refine Out.mk ?_
         fail_if_success with_reducible show False
         fail_if_success with_reducible refine NeedI.mk ?_ ?_
         conv => whnf)
    refine CallVC.mk' (fun _ => letters_ok K.m hl 1 (by omega)) (fun _ => .cons (.one (CEq.refl _)) .nil) ?_
    repeat' first
      | with_reducible refine NeedI.mk (fun h => h) ?_
      | with_reducible refine NeedI.mk (fun h => h.2) ?_
      | with_reducible refine NeedI.mk (fun h => h.1) ?_
      | with_reducible exact Done.mk
      | with_reducible refine Both.mk (fun _ => ?_) (fun _ => ?_)
      | with_reducible refine Both2.mk (fun _ => ?_) ?_
      | with_reducible refine Need.mk (by first | omega | with_reducible exact CEq.refl _ | (simp only [decide_eq_true_eq, decide_eq_false_iff_not, Bool.or_eq_true, Bool.and_eq_true, Bool.or_eq_false_iff, Int.toNat_natCast, addN_eq, cond_false, cond_true, rng] at *; omega)) ?_
      | (fail_if_success with_reducible refine LoopVC.mk ?_
         fail_if_success with_reducible refine Need.mk ?_ ?_
         fail_if_success with_reducible refine CallVC.mk ?_
         fail_if_success with_reducible refine LoopEnd.mk ?_
         fail_if_success with_reducible refine Out.mk ?_
         fail_if_success with_reducible show False
         fail_if_success with_reducible refine NeedI.mk ?_ ?_
         conv => whnf)
    refine CallVC.mk' (fun _ => put_ok K.m K.put K.right K.fits K.cloneW (fD n 200) ⟨0, lets 1⟩ fs.s fs.c fs.ls fs.lc (by show (lets 1).length ≤ _; rw [lets_len]; omega)) (fun _ => .cons ((.many fun j hj => by (rcases (show j = 0 ∨ j = 1 by omega) with rfl | rfl <;> exact CEq.refl _))) (.cons ((.many fun j hj => by (rcases (show j = 0 ∨ j = 1 by omega) with rfl | rfl <;> exact CEq.refl _))) .nil)) ?_
    rw [fp.1, fp.2]
    repeat' first
      | with_reducible refine NeedI.mk (fun h => h) ?_
      | with_reducible refine NeedI.mk (fun h => h.2) ?_
      | with_reducible refine NeedI.mk (fun h => h.1) ?_
      | with_reducible exact Done.mk
      | with_reducible refine Both.mk (fun _ => ?_) (fun _ => ?_)
      | with_reducible refine Both2.mk (fun _ => ?_) ?_
      | with_reducible refine Need.mk (by first | omega | with_reducible exact CEq.refl _ | (simp only [decide_eq_true_eq, decide_eq_false_iff_not, Bool.or_eq_true, Bool.and_eq_true, Bool.or_eq_false_iff, Int.toNat_natCast, addN_eq, cond_false, cond_true, rng] at *; omega)) ?_
      | (fail_if_success with_reducible refine LoopVC.mk ?_
         fail_if_success with_reducible refine Need.mk ?_ ?_
         fail_if_success with_reducible refine CallVC.mk ?_
         fail_if_success with_reducible refine LoopEnd.mk ?_
         fail_if_success with_reducible refine Out.mk ?_
         fail_if_success with_reducible show False
         fail_if_success with_reducible refine NeedI.mk ?_ ?_
         conv => whnf)
    refine CallVC.mk' (fun _ => sync_ok K (fD n 200) fs) (fun _ => .cons ((.many fun j hj => by (rcases (show j = 0 ∨ j = 1 by omega) with rfl | rfl <;> exact CEq.refl _))) .nil) ?_
    repeat' first
      | with_reducible refine NeedI.mk (fun h => h) ?_
      | with_reducible refine NeedI.mk (fun h => h.2) ?_
      | with_reducible refine NeedI.mk (fun h => h.1) ?_
      | with_reducible exact Done.mk
      | with_reducible refine Both.mk (fun _ => ?_) (fun _ => ?_)
      | with_reducible refine Both2.mk (fun _ => ?_) ?_
      | with_reducible refine Need.mk (by first | omega | with_reducible exact CEq.refl _ | (simp only [decide_eq_true_eq, decide_eq_false_iff_not, Bool.or_eq_true, Bool.and_eq_true, Bool.or_eq_false_iff, Int.toNat_natCast, addN_eq, cond_false, cond_true, rng] at *; omega)) ?_
      | (fail_if_success with_reducible refine LoopVC.mk ?_
         fail_if_success with_reducible refine Need.mk ?_ ?_
         fail_if_success with_reducible refine CallVC.mk ?_
         fail_if_success with_reducible refine LoopEnd.mk ?_
         fail_if_success with_reducible refine Out.mk ?_
         fail_if_success with_reducible show False
         fail_if_success with_reducible refine NeedI.mk ?_ ?_
         conv => whnf)
    refine CallVC.mk' (fun _ => letters_ok K.m hl 1 (by omega)) (fun _ => .cons (.one (CEq.refl _)) .nil) ?_
    repeat' first
      | with_reducible refine NeedI.mk (fun h => h) ?_
      | with_reducible refine NeedI.mk (fun h => h.2) ?_
      | with_reducible refine NeedI.mk (fun h => h.1) ?_
      | with_reducible exact Done.mk
      | with_reducible refine Both.mk (fun _ => ?_) (fun _ => ?_)
      | with_reducible refine Both2.mk (fun _ => ?_) ?_
      | with_reducible refine Need.mk (by first | omega | with_reducible exact CEq.refl _ | (simp only [decide_eq_true_eq, decide_eq_false_iff_not, Bool.or_eq_true, Bool.and_eq_true, Bool.or_eq_false_iff, Int.toNat_natCast, addN_eq, cond_false, cond_true, rng] at *; omega)) ?_
      | (fail_if_success with_reducible refine LoopVC.mk ?_
         fail_if_success with_reducible refine Need.mk ?_ ?_
         fail_if_success with_reducible refine CallVC.mk ?_
         fail_if_success with_reducible refine LoopEnd.mk ?_
         fail_if_success with_reducible refine Out.mk ?_
         fail_if_success with_reducible show False
         fail_if_success with_reducible refine NeedI.mk ?_ ?_
         conv => whnf)
    refine CallVC.mk' (fun _ => put_ok K.m K.put K.right K.fits K.cloneW (fD n 200).sync ⟨0, lets 1⟩ fss.s fss.c fss.ls fss.lc (by show (lets 1).length ≤ _; rw [lets_len]; omega)) (fun _ => .cons ((.many fun j hj => by (rcases (show j = 0 ∨ j = 1 by omega) with rfl | rfl <;> exact CEq.refl _))) (.cons ((.many fun j hj => by (rcases (show j = 0 ∨ j = 1 by omega) with rfl | rfl <;> exact CEq.refl _))) .nil)) ?_
    rw [show (fD n 200).sync.putE ⟨0, lets 1⟩ = 0 by unfold Dsk.putE; rw [if_pos ⟨fsr, fits0 fsr⟩]; exact if_pos (by rw [fc]; decide)]
    repeat' first
      | with_reducible refine NeedI.mk (fun h => h) ?_
      | with_reducible refine NeedI.mk (fun h => h.2) ?_
      | with_reducible refine NeedI.mk (fun h => h.1) ?_
      | with_reducible exact Done.mk
      | with_reducible refine Both.mk (fun _ => ?_) (fun _ => ?_)
      | with_reducible refine Both2.mk (fun _ => ?_) ?_
      | with_reducible refine Need.mk (by first | omega | with_reducible exact CEq.refl _ | (simp only [decide_eq_true_eq, decide_eq_false_iff_not, Bool.or_eq_true, Bool.and_eq_true, Bool.or_eq_false_iff, Int.toNat_natCast, addN_eq, cond_false, cond_true, rng] at *; omega)) ?_
      | (fail_if_success with_reducible refine LoopVC.mk ?_
         fail_if_success with_reducible refine Need.mk ?_ ?_
         fail_if_success with_reducible refine CallVC.mk ?_
         fail_if_success with_reducible refine LoopEnd.mk ?_
         fail_if_success with_reducible refine Out.mk ?_
         fail_if_success with_reducible show False
         fail_if_success with_reducible refine NeedI.mk ?_ ?_
         conv => whnf)
    refine CallVC.mk' (fun _ => awake_ok L) (fun _ => .nil) ?_
    repeat' first
      | with_reducible refine NeedI.mk (fun h => h) ?_
      | with_reducible refine NeedI.mk (fun h => h.2) ?_
      | with_reducible refine NeedI.mk (fun h => h.1) ?_
      | with_reducible exact Done.mk
      | with_reducible refine Both.mk (fun _ => ?_) (fun _ => ?_)
      | with_reducible refine Both2.mk (fun _ => ?_) ?_
      | with_reducible refine Need.mk (by first | omega | with_reducible exact CEq.refl _ | (simp only [decide_eq_true_eq, decide_eq_false_iff_not, Bool.or_eq_true, Bool.and_eq_true, Bool.or_eq_false_iff, Int.toNat_natCast, addN_eq, cond_false, cond_true, rng] at *; omega)) ?_
      | (fail_if_success with_reducible refine LoopVC.mk ?_
         fail_if_success with_reducible refine Need.mk ?_ ?_
         fail_if_success with_reducible refine CallVC.mk ?_
         fail_if_success with_reducible refine LoopEnd.mk ?_
         fail_if_success with_reducible refine Out.mk ?_
         fail_if_success with_reducible show False
         fail_if_success with_reducible refine NeedI.mk ?_ ?_
         conv => whnf)
    refine Need.mk (eB ?_) ?_
    · simp [fl]
    · repeat' first
        | with_reducible refine NeedI.mk (fun h => h) ?_
        | with_reducible refine NeedI.mk (fun h => h.2) ?_
        | with_reducible refine NeedI.mk (fun h => h.1) ?_
        | with_reducible exact Done.mk
        | with_reducible refine Both.mk (fun _ => ?_) (fun _ => ?_)
        | with_reducible refine Both2.mk (fun _ => ?_) ?_
        | with_reducible refine Need.mk (by with_reducible exact Nat.le_of_eq (Nat.zero_add _)) ?_
        | (fail_if_success with_reducible refine LoopVC.mk ?_
           fail_if_success with_reducible refine Need.mk ?_ ?_
           fail_if_success with_reducible refine CallVC.mk ?_
           fail_if_success with_reducible refine LoopEnd.mk ?_
           fail_if_success with_reducible refine Out.mk ?_
           fail_if_success with_reducible show False
           fail_if_success with_reducible refine NeedI.mk ?_ ?_
           conv => whnf)
end
end Lk.S03
