/-
  Gs12a: what these chapters need.
-/
import Derived.Test.YtihjalnebgjmgaaCCa
import Derived.Test.YtihjalnebgjmgaaLkC
import Derived.Test.YtihjalnebgjmgaaGs03a
set_option linter.unusedSimpArgs false
set_option linter.unusedVariables false
namespace Lk.S12
open Go Lk Lk.C Lk.S03
structure Op where
  sync : Bool
  w : Wr
deriving DecidableEq
instance : Inhabited Op := ⟨⟨false, ⟨0, []⟩⟩⟩
def opE (o : Op) (j : Nat) : Cell :=
  match j with
  | 0 => .bool o.sync
  | 1 => .int .i64 o.w.at_
  | _ => .str o.w.data
def usable (d : Dsk) : Prop := right d ∧ 35 ≤ d.secs.length
instance (d : Dsk) : Decidable (usable d) := by unfold usable; infer_instance
def valid (p : Int) : Prop := 1 ≤ p ∧ p ≤ 16
instance (p : Int) : Decidable (valid p) := by unfold valid; infer_instance
def home (p : Int) : Int := 2 * p + 1
def halves (at_ : Int) (a b : List UInt8) : List Op := [⟨false, ⟨at_, a⟩⟩, ⟨false, ⟨at_ + 1, b⟩⟩, ⟨true, ⟨0, []⟩⟩]
def topL (a : List UInt8) : List Op := [⟨false, ⟨0, a⟩⟩, ⟨true, ⟨0, []⟩⟩]
section
variable {P : Program} {F : Nat → Nat}
set_option maxHeartbeats 8000000 in
set_option maxRecDepth 100000 in
theorem usable_ok (K : KDisk P F) (hk : journal_usable_k P F) (d : Dsk) (S : Small d) : FnOk P (F 117) [.many 2 (dskE d)] [.one (.im (.bool (decide (usable d))))] := by
  refine fnOk K.m hk ?_
  repeat' first
    | (with_reducible first | refine NeedI.mk (fun h => h) ?_ | refine NeedI.mk (fun h => h.2) ?_ | refine NeedI.mk (fun h => h.1) ?_ | exact Done.mk | refine Both.mk (fun _ => ?_) (fun _ => ?_) | refine Both2.mk (fun _ => ?_) ?_ | refine Need.mk (by first | omega | with_reducible exact CEq.refl _) ?_)
    | ((with_reducible fail_if_success first | refine LoopVC.mk ?_ | refine Need.mk ?_ ?_ | refine CallVC.mk ?_ | refine LoopEnd.mk ?_ | refine Out.mk ?_ | show False | refine NeedI.mk ?_ ?_); conv => whnf)
  refine CallVC.mk' (fun _ => right_ok K.m K.right K.fits d S.s S.c S.ls S.lc) (fun _ => .cons ((.many fun j hj => by (rcases (show j = 0 ∨ j = 1 by omega) with rfl | rfl <;> exact CEq.refl _))) .nil) ?_
  have := S.s
  repeat' first
    | (with_reducible first | refine NeedI.mk (fun h => h) ?_ | refine NeedI.mk (fun h => h.2) ?_ | refine NeedI.mk (fun h => h.1) ?_ | exact Done.mk | refine Both.mk (fun _ => ?_) (fun _ => ?_) | refine Both2.mk (fun _ => ?_) ?_ | refine Need.mk (by first | omega | with_reducible exact CEq.refl _) ?_)
    | ((with_reducible fail_if_success first | refine LoopVC.mk ?_ | refine Need.mk ?_ ?_ | refine CallVC.mk ?_ | refine LoopEnd.mk ?_ | refine Out.mk ?_ | show False | refine NeedI.mk ?_ ?_); conv => whnf)
  refine Need.mk (eB ?_) ?_
  · rw [Bool.eq_iff_iff]; simp only [Bool.and_eq_true, decide_eq_true_eq]; exact ⟨fun ⟨a, b⟩ => ⟨a, by omega⟩, fun ⟨a, b⟩ => ⟨a, by omega⟩⟩
  repeat' first
    | (with_reducible first | refine NeedI.mk (fun h => h) ?_ | refine NeedI.mk (fun h => h.2) ?_ | refine NeedI.mk (fun h => h.1) ?_ | exact Done.mk | refine Both.mk (fun _ => ?_) (fun _ => ?_) | refine Both2.mk (fun _ => ?_) ?_ | refine Need.mk (by with_reducible exact Nat.le_of_eq (Nat.zero_add _)) ?_)
    | ((with_reducible fail_if_success first | refine LoopVC.mk ?_ | refine Need.mk ?_ ?_ | refine CallVC.mk ?_ | refine LoopEnd.mk ?_ | refine Out.mk ?_ | show False | refine NeedI.mk ?_ ?_); conv => whnf)
set_option maxHeartbeats 8000000 in
set_option maxRecDepth 100000 in
theorem valid_ok (hm : P.follows .mixedOrders = true) (hk : journal_valid_k P F) (p : Int) : FnOk P (F 118) [.one (.int .i64 p)] [.one (.im (.bool (decide (valid p))))] := by
  refine fnOk hm hk ?_
  repeat' first
    | (with_reducible first | refine NeedI.mk (fun h => h) ?_ | refine NeedI.mk (fun h => h.2) ?_ | refine NeedI.mk (fun h => h.1) ?_ | exact Done.mk | refine Both.mk (fun _ => ?_) (fun _ => ?_) | refine Both2.mk (fun _ => ?_) ?_ | refine Need.mk (by first | omega | with_reducible exact CEq.refl _) ?_)
    | ((with_reducible fail_if_success first | refine LoopVC.mk ?_ | refine Need.mk ?_ ?_ | refine CallVC.mk ?_ | refine LoopEnd.mk ?_ | refine Out.mk ?_ | show False | refine NeedI.mk ?_ ?_); conv => whnf)
  refine Need.mk (eB ?_) ?_
  · rw [Bool.eq_iff_iff]; simp only [Bool.and_eq_true, decide_eq_true_eq]; unfold valid; exact Iff.rfl
  repeat' first
    | (with_reducible first | refine NeedI.mk (fun h => h) ?_ | refine NeedI.mk (fun h => h.2) ?_ | refine NeedI.mk (fun h => h.1) ?_ | exact Done.mk | refine Both.mk (fun _ => ?_) (fun _ => ?_) | refine Both2.mk (fun _ => ?_) ?_ | refine Need.mk (by with_reducible exact Nat.le_of_eq (Nat.zero_add _)) ?_)
    | ((with_reducible fail_if_success first | refine LoopVC.mk ?_ | refine Need.mk ?_ ?_ | refine CallVC.mk ?_ | refine LoopEnd.mk ?_ | refine Out.mk ?_ | show False | refine NeedI.mk ?_ ?_); conv => whnf)
set_option maxHeartbeats 8000000 in
set_option maxRecDepth 100000 in
theorem home_ok (hm : P.follows .mixedOrders = true) (hk : journal_home_k P F) (p : Int) (h : valid p) : FnOk P (F 122) [.one (.int .i64 p)] [.one (.im (.int .i64 (home p)))] := by
  refine fnOk hm hk ?_
  obtain ⟨h1, h2⟩ := h
  repeat' first
    | (with_reducible first | refine NeedI.mk (fun h => h) ?_ | refine NeedI.mk (fun h => h.2) ?_ | refine NeedI.mk (fun h => h.1) ?_ | exact Done.mk | refine Both.mk (fun _ => ?_) (fun _ => ?_) | refine Both2.mk (fun _ => ?_) ?_ | refine Need.mk (by first | omega | with_reducible exact CEq.refl _ | (simp only [rng]; omega)) ?_)
    | ((with_reducible fail_if_success first | refine LoopVC.mk ?_ | refine Need.mk ?_ ?_ | refine CallVC.mk ?_ | refine LoopEnd.mk ?_ | refine Out.mk ?_ | show False | refine NeedI.mk ?_ ?_); conv => whnf)
  refine Need.mk (CEq.refl _) ?_
  repeat' first
    | (with_reducible first | refine NeedI.mk (fun h => h) ?_ | refine NeedI.mk (fun h => h.2) ?_ | refine NeedI.mk (fun h => h.1) ?_ | exact Done.mk | refine Both.mk (fun _ => ?_) (fun _ => ?_) | refine Both2.mk (fun _ => ?_) ?_ | refine Need.mk (by with_reducible exact Nat.le_of_eq (Nat.zero_add _)) ?_)
    | ((with_reducible fail_if_success first | refine LoopVC.mk ?_ | refine Need.mk ?_ ?_ | refine CallVC.mk ?_ | refine LoopEnd.mk ?_ | refine Out.mk ?_ | show False | refine NeedI.mk ?_ ?_); conv => whnf)
set_option maxHeartbeats 8000000 in
set_option maxRecDepth 100000 in
theorem halves_ok (hm : P.follows .mixedOrders = true) (hk : journal_halves_k P F) (at_ : Int) (a b : List UInt8) (h1 : 0 ≤ at_) (h2 : at_ ≤ 100) : FnOk P (F 119) [.one (.int .i64 at_), .one (.str a), .one (.str b)] [.one (.ow 3 3 fun i j => opE ((halves at_ a b).getD i default) j)] := by
  refine fnOk hm hk ?_
  repeat' first
    | (with_reducible first | refine NeedI.mk (fun h => h) ?_ | refine NeedI.mk (fun h => h.2) ?_ | refine NeedI.mk (fun h => h.1) ?_ | exact Done.mk | refine Both.mk (fun _ => ?_) (fun _ => ?_) | refine Both2.mk (fun _ => ?_) ?_ | refine Need.mk (by first | omega | with_reducible exact CEq.refl _ | (simp only [rng]; omega) | exact ⟨rfl, rfl⟩) ?_)
    | ((with_reducible fail_if_success first | refine LoopVC.mk ?_ | refine Need.mk ?_ ?_ | refine CallVC.mk ?_ | refine LoopEnd.mk ?_ | refine Out.mk ?_ | show False | refine NeedI.mk ?_ ?_); conv => whnf)
  refine Need.mk ⟨rfl, rfl, rfl⟩ ?_
  repeat' first
    | (with_reducible first | refine NeedI.mk (fun h => h) ?_ | refine NeedI.mk (fun h => h.2) ?_ | refine NeedI.mk (fun h => h.1) ?_ | exact Done.mk | refine Both.mk (fun _ => ?_) (fun _ => ?_) | refine Both2.mk (fun _ => ?_) ?_ | refine Need.mk (by first | omega | with_reducible exact CEq.refl _) ?_)
    | ((with_reducible fail_if_success first | refine LoopVC.mk ?_ | refine Need.mk ?_ ?_ | refine CallVC.mk ?_ | refine LoopEnd.mk ?_ | refine Out.mk ?_ | show False | refine NeedI.mk ?_ ?_); conv => whnf)
  refine Need.mk (fun i hi j hj => ?_) ?_
  · rcases (show i = 0 ∨ i = 1 ∨ i = 2 by omega) with rfl | rfl | rfl <;> rcases (show j = 0 ∨ j = 1 ∨ j = 2 by omega) with rfl | rfl | rfl <;> exact CEq.refl _
  repeat' first
    | (with_reducible first | refine NeedI.mk (fun h => h) ?_ | refine NeedI.mk (fun h => h.2) ?_ | refine NeedI.mk (fun h => h.1) ?_ | exact Done.mk | refine Both.mk (fun _ => ?_) (fun _ => ?_) | refine Both2.mk (fun _ => ?_) ?_ | refine Need.mk (by with_reducible exact Nat.le_of_eq (Nat.zero_add _)) ?_)
    | ((with_reducible fail_if_success first | refine LoopVC.mk ?_ | refine Need.mk ?_ ?_ | refine CallVC.mk ?_ | refine LoopEnd.mk ?_ | refine Out.mk ?_ | show False | refine NeedI.mk ?_ ?_); conv => whnf)
set_option maxHeartbeats 8000000 in
set_option maxRecDepth 100000 in
theorem top_ok (hm : P.follows .mixedOrders = true) (hk : journal_top_k P F) (a : List UInt8) : FnOk P (F 121) [.one (.str a)] [.one (.ow 3 2 fun i j => opE ((topL a).getD i default) j)] := by
  refine fnOk hm hk ?_
  repeat' first
    | (with_reducible first | refine NeedI.mk (fun h => h) ?_ | refine NeedI.mk (fun h => h.2) ?_ | refine NeedI.mk (fun h => h.1) ?_ | exact Done.mk | refine Both.mk (fun _ => ?_) (fun _ => ?_) | refine Both2.mk (fun _ => ?_) ?_ | refine Need.mk (by first | omega | with_reducible exact CEq.refl _ | (simp only [rng]; omega)) ?_)
    | ((with_reducible fail_if_success first | refine LoopVC.mk ?_ | refine Need.mk ?_ ?_ | refine CallVC.mk ?_ | refine LoopEnd.mk ?_ | refine Out.mk ?_ | show False | refine NeedI.mk ?_ ?_); conv => whnf)
  refine Need.mk ⟨rfl, rfl, rfl⟩ ?_
  repeat' first
    | (with_reducible first | refine NeedI.mk (fun h => h) ?_ | refine NeedI.mk (fun h => h.2) ?_ | refine NeedI.mk (fun h => h.1) ?_ | exact Done.mk | refine Both.mk (fun _ => ?_) (fun _ => ?_) | refine Both2.mk (fun _ => ?_) ?_ | refine Need.mk (by first | omega | with_reducible exact CEq.refl _) ?_)
    | ((with_reducible fail_if_success first | refine LoopVC.mk ?_ | refine Need.mk ?_ ?_ | refine CallVC.mk ?_ | refine LoopEnd.mk ?_ | refine Out.mk ?_ | show False | refine NeedI.mk ?_ ?_); conv => whnf)
  refine Need.mk (fun i hi j hj => ?_) ?_
  · rcases (show i = 0 ∨ i = 1 by omega) with rfl | rfl <;> rcases (show j = 0 ∨ j = 1 ∨ j = 2 by omega) with rfl | rfl | rfl <;> exact CEq.refl _
  repeat' first
    | (with_reducible first | refine NeedI.mk (fun h => h) ?_ | refine NeedI.mk (fun h => h.2) ?_ | refine NeedI.mk (fun h => h.1) ?_ | exact Done.mk | refine Both.mk (fun _ => ?_) (fun _ => ?_) | refine Both2.mk (fun _ => ?_) ?_ | refine Need.mk (by with_reducible exact Nat.le_of_eq (Nat.zero_add _)) ?_)
    | ((with_reducible fail_if_success first | refine LoopVC.mk ?_ | refine Need.mk ?_ ?_ | refine CallVC.mk ?_ | refine LoopEnd.mk ?_ | refine Out.mk ?_ | show False | refine NeedI.mk ?_ ?_); conv => whnf)
end
end Lk.S12
namespace Lk.S12
open Go Lk Lk.C Lk.S03
def stepR (d : Dsk) (o : Op) : Dsk := if o.sync then d.sync else d.put o.w
def runL (d : Dsk) (l : List Op) : Dsk := l.foldl stepR d
def run (d : Dsk) (l : List Op) (most : Int) : Dsk := runL d (l.take most.toNat)
theorem runL_snoc {d : Dsk} {l : List Op} {o : Op} : runL d (l ++ [o]) = stepR (runL d l) o := by unfold runL; rw [List.foldl_append]; rfl
theorem Small_step {d : Dsk} {o : Op} (S : Small d) : Small (stepR d o) := by
  unfold stepR; split
  · exact S.sync
  · exact S.put
theorem Small_run {l : List Op} : ∀ {d : Dsk}, Small d → Small (runL d l) := by
  induction l with
  | nil => exact id
  | cons o l ih => intro d S; exact ih (Small_step S)
theorem put_same {d : Dsk} {w : Wr} (h : d.putE w ≠ 0) : d.put w = d := by
  unfold Dsk.put
  refine if_neg fun x => h ?_
  unfold Dsk.putE
  rw [if_pos ⟨x.1, x.2.1⟩, if_pos x.2.2]
section
variable {P : Program} {F : Nat → Nat}
set_option maxHeartbeats 8000000 in
set_option maxRecDepth 100000 in
theorem run_ok (K : KDisk P F) (hk : journal_Run_k P F) (d : Dsk) (l : List Op) (most : Int) (S : Small d) (hl : l.length ≤ 1000000) (hw : ∀ o ∈ l, o.w.data.length ≤ 1000000) :
    FnOk P (F 111) [.many 2 (dskE d), .one (slL 3 opE l), .one (.int .i64 most)] [.many 2 (fun j => .im (dskE (run d l most) j))] := by
  refine fnOk K.m hk ?_
  repeat' first
    | (with_reducible first | refine NeedI.mk (fun h => h) ?_ | refine NeedI.mk (fun h => h.2) ?_ | refine NeedI.mk (fun h => h.1) ?_ | exact Done.mk | refine Both.mk (fun _ => ?_) (fun _ => ?_) | refine Both2.mk (fun _ => ?_) ?_ | refine Need.mk (by first | omega | with_reducible exact CEq.refl _) ?_)
    | ((with_reducible fail_if_success first | refine LoopVC.mk ?_ | refine Need.mk ?_ ?_ | refine CallVC.mk ?_ | refine LoopEnd.mk ?_ | refine Out.mk ?_ | show False | refine NeedI.mk ?_ ?_); conv => whnf)
  refine LoopVC.inv (fun i : Nat => i ≤ l.length ∧ (i : Int) ≤ max most 0) (fun i => stL [(2, .c (.int .i64 most)), (3, .va 3 0 0), (6, .va 6 0 0), (11, .c (slL 3 opE l)), (12, .c (.int .i64 l.length)), (13, .c (.int .i64 i))]
      [(3, vE [.c (slL 1 strE (runL d (l.take i)).secs), .c (slL 2 wrE (runL d (l.take i)).cache)]), (6, vE [.nil 1, .nil 2])])
    (fun i => l.length - i) 0 ⟨Nat.zero_le _, by omega⟩ ?_ ?_
  · refine Le.of ⟨rfl, ⟨rfl, rfl, rfl⟩, ⟨rfl, rfl, rfl⟩, CEq.refl _, rfl, rfl, trivial⟩ ⟨⟨_, rfl, SubE.var2 (CEq.refl _) (CEq.refl _)⟩, ⟨_, rfl, SubE.var2 trivial trivial⟩, trivial⟩
  rintro Q hQ i ⟨hi, him⟩
  have Si : Small (runL d (l.take i)) := Small_run S
  repeat' first
    | (with_reducible first | refine NeedI.mk (fun h => h) ?_ | refine NeedI.mk (fun h => h.2) ?_ | refine NeedI.mk (fun h => h.1) ?_ | exact Done.mk | refine Both.mk (fun _ => ?_) (fun _ => ?_) | refine Both2.mk (fun _ => ?_) ?_ | refine Need.mk (by first | omega | with_reducible exact CEq.refl _ | (simp only [decide_eq_true_eq, decide_eq_false_iff_not, Bool.or_eq_true, Bool.and_eq_true, Bool.or_eq_false_iff, Int.toNat_natCast, addN_eq, cond_false, cond_true, rng] at *; omega)) ?_)
    | ((with_reducible fail_if_success first | refine LoopVC.mk ?_ | refine Need.mk ?_ ?_ | refine CallVC.mk ?_ | refine LoopEnd.mk ?_ | refine Out.mk ?_ | show False | refine NeedI.mk ?_ ?_); conv => whnf)
  · rename_i h3 h4
    simp only [decide_eq_true_eq] at h3 h4
    refine Out.mk (hQ _ _ ?_)
    have e : run d l most = runL d (l.take i) := by unfold run; rw [show most.toNat = i by omega]
    rw [e]
    repeat' first
      | (with_reducible first | refine NeedI.mk (fun h => h) ?_ | refine NeedI.mk (fun h => h.2) ?_ | refine NeedI.mk (fun h => h.1) ?_ | exact Done.mk | refine Both.mk (fun _ => ?_) (fun _ => ?_) | refine Both2.mk (fun _ => ?_) ?_ | refine Need.mk (by with_reducible exact Nat.le_of_eq (Nat.zero_add _)) ?_)
      | ((with_reducible fail_if_success first | refine LoopVC.mk ?_ | refine Need.mk ?_ ?_ | refine CallVC.mk ?_ | refine LoopEnd.mk ?_ | refine Out.mk ?_ | show False | refine NeedI.mk ?_ ?_); conv => whnf)
    refine Need.mk (CEq.refl _) ?_
    repeat' first
      | (with_reducible first | refine NeedI.mk (fun h => h) ?_ | refine NeedI.mk (fun h => h.2) ?_ | refine NeedI.mk (fun h => h.1) ?_ | exact Done.mk | refine Both.mk (fun _ => ?_) (fun _ => ?_) | refine Both2.mk (fun _ => ?_) ?_ | refine Need.mk (by with_reducible exact Nat.le_of_eq (Nat.zero_add _)) ?_)
      | ((with_reducible fail_if_success first | refine LoopVC.mk ?_ | refine Need.mk ?_ ?_ | refine CallVC.mk ?_ | refine LoopEnd.mk ?_ | refine Out.mk ?_ | show False | refine NeedI.mk ?_ ?_); conv => whnf)
    refine Need.mk (CEq.refl _) ?_
    repeat' first
      | (with_reducible first | refine NeedI.mk (fun h => h) ?_ | refine NeedI.mk (fun h => h.2) ?_ | refine NeedI.mk (fun h => h.1) ?_ | exact Done.mk | refine Both.mk (fun _ => ?_) (fun _ => ?_) | refine Both2.mk (fun _ => ?_) ?_ | refine Need.mk (by with_reducible exact Nat.le_of_eq (Nat.zero_add _)) ?_)
      | ((with_reducible fail_if_success first | refine LoopVC.mk ?_ | refine Need.mk ?_ ?_ | refine CallVC.mk ?_ | refine LoopEnd.mk ?_ | refine Out.mk ?_ | show False | refine NeedI.mk ?_ ?_); conv => whnf)
  · rename_i h3 h4 h5
    simp only [decide_eq_true_eq, decide_eq_false_iff_not, Int.toNat_natCast] at h3 h4
    have e : runL d (l.take (i + 1)) = (runL d (l.take i)).sync := by
      rw [take_snoc (by omega), runL_snoc]; unfold stepR; exact if_pos h5
    refine CallVC.mk' (fun _ => sync_ok K (runL d (l.take i)) Si) (fun _ => .cons ((.many fun j hj => by (rcases (show j = 0 ∨ j = 1 by omega) with rfl | rfl <;> exact CEq.refl _))) .nil) ?_
    rw [← e]
    repeat' first
      | (with_reducible first | refine NeedI.mk (fun h => h) ?_ | refine NeedI.mk (fun h => h.2) ?_ | refine NeedI.mk (fun h => h.1) ?_ | exact Done.mk | refine Both.mk (fun _ => ?_) (fun _ => ?_) | refine Both2.mk (fun _ => ?_) ?_ | refine Need.mk (by first | omega | with_reducible exact CEq.refl _ | (simp only [decide_eq_true_eq, decide_eq_false_iff_not, Bool.or_eq_true, Bool.and_eq_true, Bool.or_eq_false_iff, Int.toNat_natCast, addN_eq, cond_false, cond_true, rng] at *; omega)) ?_)
      | ((with_reducible fail_if_success first | refine LoopVC.mk ?_ | refine Need.mk ?_ ?_ | refine CallVC.mk ?_ | refine LoopEnd.mk ?_ | refine Out.mk ?_ | show False | refine NeedI.mk ?_ ?_); conv => whnf)
    refine LoopEnd.mk ⟨i + 1, ⟨by omega, by omega⟩, by omega, ?_⟩
    refine Le.of ⟨rfl, ⟨rfl, rfl, rfl⟩, ⟨rfl, rfl, rfl⟩, CEq.refl _, rfl, cI (by simp), trivial⟩ ⟨⟨_, rfl, SubE.var2 (CEq.refl _) (CEq.refl _)⟩, ⟨_, rfl, SubE.var2 trivial trivial⟩, trivial⟩
  · rename_i h3 h4 h5
    simp only [decide_eq_true_eq, decide_eq_false_iff_not, Int.toNat_natCast] at h3 h4 h5
    have e : runL d (l.take (i + 1)) = (runL d (l.take i)).put (l.getD i default).w := by
      rw [take_snoc (by omega), runL_snoc]; unfold stepR; exact if_neg (by rw [h5]; decide)
    refine CallVC.mk' (fun _ => put_ok K.m K.put K.right K.fits K.cloneW (runL d (l.take i)) (l.getD i default).w Si.s Si.c Si.ls Si.lc (hw _ (getD_mem (by omega)))) (fun _ => .cons ((.many fun j hj => by (rcases (show j = 0 ∨ j = 1 by omega) with rfl | rfl <;> exact CEq.refl _))) (.cons ((.many fun j hj => by (rcases (show j = 0 ∨ j = 1 by omega) with rfl | rfl <;> exact CEq.refl _))) .nil)) ?_
    rw [← e]
    repeat' first
      | (with_reducible first | refine NeedI.mk (fun h => h) ?_ | refine NeedI.mk (fun h => h.2) ?_ | refine NeedI.mk (fun h => h.1) ?_ | exact Done.mk | refine Both.mk (fun _ => ?_) (fun _ => ?_) | refine Both2.mk (fun _ => ?_) ?_ | refine Need.mk (by first | omega | with_reducible exact CEq.refl _ | (simp only [decide_eq_true_eq, decide_eq_false_iff_not, Bool.or_eq_true, Bool.and_eq_true, Bool.or_eq_false_iff, Int.toNat_natCast, addN_eq, cond_false, cond_true, rng] at *; omega)) ?_)
      | ((with_reducible fail_if_success first | refine LoopVC.mk ?_ | refine Need.mk ?_ ?_ | refine CallVC.mk ?_ | refine LoopEnd.mk ?_ | refine Out.mk ?_ | show False | refine NeedI.mk ?_ ?_); conv => whnf)
    · refine LoopEnd.mk ⟨i + 1, ⟨by omega, by omega⟩, by omega, ?_⟩
      refine Le.of ⟨rfl, ⟨rfl, rfl, rfl⟩, ⟨rfl, rfl, rfl⟩, CEq.refl _, rfl, cI (by simp), trivial⟩ ⟨⟨_, rfl, SubE.var2 (CEq.refl _) (CEq.refl _)⟩, ⟨_, rfl, SubE.var2 trivial trivial⟩, trivial⟩
    · rename_i h6
      have h6 : (runL d (l.take i)).putE (l.getD i default).w ≠ 0 := of_decide_eq_false h6
      rw [put_same h6] at e
      refine LoopEnd.mk ⟨i + 1, ⟨by omega, by omega⟩, by omega, ?_⟩
      rw [e]
      refine Le.of ⟨rfl, ⟨rfl, rfl, rfl⟩, ⟨rfl, rfl, rfl⟩, CEq.refl _, rfl, cI (by simp), trivial⟩ ⟨⟨_, rfl, SubE.var2 (CEq.refl _) (CEq.refl _)⟩, ⟨_, rfl, SubE.var2 trivial trivial⟩, trivial⟩
  · rename_i h3
    simp only [decide_eq_false_iff_not] at h3
    obtain rfl : i = l.length := by omega
    refine Out.mk (hQ _ _ ?_)
    have e : run d l most = runL d (l.take l.length) := by unfold run; rw [List.take_of_length_le (by omega), List.take_length]
    rw [e]
    repeat' first
      | (with_reducible first | refine NeedI.mk (fun h => h) ?_ | refine NeedI.mk (fun h => h.2) ?_ | refine NeedI.mk (fun h => h.1) ?_ | exact Done.mk | refine Both.mk (fun _ => ?_) (fun _ => ?_) | refine Both2.mk (fun _ => ?_) ?_ | refine Need.mk (by with_reducible exact Nat.le_of_eq (Nat.zero_add _)) ?_)
      | ((with_reducible fail_if_success first | refine LoopVC.mk ?_ | refine Need.mk ?_ ?_ | refine CallVC.mk ?_ | refine LoopEnd.mk ?_ | refine Out.mk ?_ | show False | refine NeedI.mk ?_ ?_); conv => whnf)
    refine Need.mk (CEq.refl _) ?_
    repeat' first
      | (with_reducible first | refine NeedI.mk (fun h => h) ?_ | refine NeedI.mk (fun h => h.2) ?_ | refine NeedI.mk (fun h => h.1) ?_ | exact Done.mk | refine Both.mk (fun _ => ?_) (fun _ => ?_) | refine Both2.mk (fun _ => ?_) ?_ | refine Need.mk (by with_reducible exact Nat.le_of_eq (Nat.zero_add _)) ?_)
      | ((with_reducible fail_if_success first | refine LoopVC.mk ?_ | refine Need.mk ?_ ?_ | refine CallVC.mk ?_ | refine LoopEnd.mk ?_ | refine Out.mk ?_ | show False | refine NeedI.mk ?_ ?_); conv => whnf)
    refine Need.mk (CEq.refl _) ?_
    repeat' first
      | (with_reducible first | refine NeedI.mk (fun h => h) ?_ | refine NeedI.mk (fun h => h.2) ?_ | refine NeedI.mk (fun h => h.1) ?_ | exact Done.mk | refine Both.mk (fun _ => ?_) (fun _ => ?_) | refine Both2.mk (fun _ => ?_) ?_ | refine Need.mk (by with_reducible exact Nat.le_of_eq (Nat.zero_add _)) ?_)
      | ((with_reducible fail_if_success first | refine LoopVC.mk ?_ | refine Need.mk ?_ ?_ | refine CallVC.mk ?_ | refine LoopEnd.mk ?_ | refine Out.mk ?_ | show False | refine NeedI.mk ?_ ?_); conv => whnf)
end
end Lk.S12
namespace Lk.S12
open Go Lk Lk.C Lk.S03
def headL (n : Nat) : List UInt8 := 74 :: UInt8.ofNat n :: List.replicate 14 0
section
variable {P : Program} {F : Nat → Nat}
set_option maxHeartbeats 8000000 in
set_option maxRecDepth 100000 in
theorem head_ok (hm : P.follows .mixedOrders = true) (hk : journal_head_k P F) (n : Nat) (h : n ≤ 16) : FnOk P (F 120) [.one (.int .i64 n)] [.one (.im (.str (headL n)))] := by
  refine fnOk hm hk ?_
  have hw : wrapI .u8 (n : Int) = (n : Int) := by
    simp [wrapI_eq, IntKind.wrap, IntKind.signed, IntKind.bits]
    omega
  repeat' first
    | (with_reducible first | refine NeedI.mk (fun h => h) ?_ | refine NeedI.mk (fun h => h.2) ?_ | refine NeedI.mk (fun h => h.1) ?_ | exact Done.mk | refine Both.mk (fun _ => ?_) (fun _ => ?_) | refine Both2.mk (fun _ => ?_) ?_ | refine Need.mk (by first | omega | with_reducible exact CEq.refl _ | (simp only [decide_eq_true_eq, decide_eq_false_iff_not, Bool.or_eq_true, Bool.and_eq_true, Bool.or_eq_false_iff, Int.toNat_natCast, addN_eq, cond_false, cond_true, rng] at *; omega)) ?_)
    | ((with_reducible fail_if_success first | refine LoopVC.mk ?_ | refine Need.mk ?_ ?_ | refine CallVC.mk ?_ | refine LoopEnd.mk ?_ | refine Out.mk ?_ | show False | refine NeedI.mk ?_ ?_); conv => whnf)
  refine Need.mk (fun i hi => by (rcases (show i = 0 ∨ i = 1 by omega) with rfl | rfl <;> exact trivial)) ?_
  rw [hw]
  repeat' first
    | (with_reducible first | refine NeedI.mk (fun h => h) ?_ | refine NeedI.mk (fun h => h.2) ?_ | refine NeedI.mk (fun h => h.1) ?_ | exact Done.mk | refine Both.mk (fun _ => ?_) (fun _ => ?_) | refine Both2.mk (fun _ => ?_) ?_ | refine Need.mk (by first | omega | with_reducible exact CEq.refl _ | (simp only [decide_eq_true_eq, decide_eq_false_iff_not, Bool.or_eq_true, Bool.and_eq_true, Bool.or_eq_false_iff, Int.toNat_natCast, addN_eq, cond_false, cond_true, rng] at *; omega)) ?_)
    | ((with_reducible fail_if_success first | refine LoopVC.mk ?_ | refine Need.mk ?_ ?_ | refine CallVC.mk ?_ | refine LoopEnd.mk ?_ | refine Out.mk ?_ | show False | refine NeedI.mk ?_ ?_); conv => whnf)
  refine Need.mk (by decide) ?_
  repeat' first
    | (with_reducible first | refine NeedI.mk (fun h => h) ?_ | refine NeedI.mk (fun h => h.2) ?_ | refine NeedI.mk (fun h => h.1) ?_ | exact Done.mk | refine Both.mk (fun _ => ?_) (fun _ => ?_) | refine Both2.mk (fun _ => ?_) ?_ | refine Need.mk (by first | omega | with_reducible exact CEq.refl _) ?_)
    | ((with_reducible fail_if_success first | refine LoopVC.mk ?_ | refine Need.mk ?_ ?_ | refine CallVC.mk ?_ | refine LoopEnd.mk ?_ | refine Out.mk ?_ | show False | refine NeedI.mk ?_ ?_); conv => whnf)
  refine Need.mk (by show 2 + 14 ≤ 1000000000000; omega) ?_
  repeat' first
    | (with_reducible first | refine NeedI.mk (fun h => h) ?_ | refine NeedI.mk (fun h => h.2) ?_ | refine NeedI.mk (fun h => h.1) ?_ | exact Done.mk | refine Both.mk (fun _ => ?_) (fun _ => ?_) | refine Both2.mk (fun _ => ?_) ?_ | refine Need.mk (by first | omega | with_reducible exact CEq.refl _) ?_)
    | ((with_reducible fail_if_success first | refine LoopVC.mk ?_ | refine Need.mk ?_ ?_ | refine CallVC.mk ?_ | refine LoopEnd.mk ?_ | refine Out.mk ?_ | show False | refine NeedI.mk ?_ ?_); conv => whnf)
  refine Need.mk (eS rfl) ?_
  repeat' first
    | (with_reducible first | refine NeedI.mk (fun h => h) ?_ | refine NeedI.mk (fun h => h.2) ?_ | refine NeedI.mk (fun h => h.1) ?_ | exact Done.mk | refine Both.mk (fun _ => ?_) (fun _ => ?_) | refine Both2.mk (fun _ => ?_) ?_ | refine Need.mk (by with_reducible exact Nat.le_of_eq (Nat.zero_add _)) ?_)
    | ((with_reducible fail_if_success first | refine LoopVC.mk ?_ | refine Need.mk ?_ ?_ | refine CallVC.mk ?_ | refine LoopEnd.mk ?_ | refine Out.mk ?_ | show False | refine NeedI.mk ?_ ?_); conv => whnf)
theorem headL_inj {m n : Nat} (hm : m ≤ 16) (hn : n ≤ 16) (h : headL m = headL n) : m = n := by
  have h1 : UInt8.ofNat m = UInt8.ofNat n := by
    unfold headL at h
    injection h with _ h
    injection h with h _
  have h2 := congrArg UInt8.toNat h1
  simp at h2
  omega
/-- The page that a head names, or 0. -/
def hd (s : List UInt8) : Nat := ((List.range 17).find? fun n => decide (1 ≤ n ∧ s = headL n)).getD 0
end
end Lk.S12
namespace Lk.S12
open Go Lk Lk.C Lk.S03
/-- The page that a head names, or 0. -/
def hp (s : List UInt8) : Nat := fstN (fun i => decide (s = headL (i + 1))) 16
def hdN (s : List UInt8) : Nat := if hp s < 16 then hp s + 1 else 0
theorem hdN_le (s : List UInt8) : hdN s ≤ 16 := by unfold hdN; split <;> omega
theorem hdN_spec {s : List UInt8} (h : hdN s ≠ 0) : s = headL (hdN s) := by
  unfold hdN at h ⊢
  split at h
  · rename_i hl
    rw [if_pos hl]
    have := fstN_at hl
    exact of_decide_eq_true this
  · exact absurd rfl h
theorem hdN_head {n : Nat} (h1 : 1 ≤ n) (h2 : n ≤ 16) : hdN (headL n) = n := by
  have hlt : hp (headL n) < 16 := fstN_lt_iff.2 ⟨n - 1, by omega, decide_eq_true (by congr 1; omega)⟩
  have : hdN (headL n) = hp (headL n) + 1 := if_pos hlt
  have h3 := hdN_spec (s := headL n) (by omega)
  exact (headL_inj h2 (hdN_le _) h3).symm
theorem headL_len (n : Nat) : (headL n).length = 16 := by unfold headL; simp
theorem headL_ne (n : Nat) : headL n ≠ zs := by
  intro h; unfold headL zs at h
  have := congrArg (fun l => l.getD 0 0) h
  simp at this
/-- What the journal needs of the program. -/
structure KJ (P : Program) (F : Nat → Nat) : Prop where
  k : KDisk P F
  rd : ∀ (d : Dsk) (at_ : Int), Small d → FnOk P (F 37) [.many 2 (dskE d), .one (.int .i64 at_)] [.one (.im (.str (d.rd at_).1)), .one (.im (.int .i64 (d.rd at_).2))]
  usable : journal_usable_k P F
  valid : journal_valid_k P F
  home : journal_home_k P F
  halves : journal_halves_k P F
  top : journal_top_k P F
  head : journal_head_k P F
  headed : journal_headed_k P F
  plan : journal_Plan_k P F
  repair : journal_Repair_k P F
  run : journal_Run_k P F
  commit : journal_Commit_k P F
  recover : journal_Recover_k P F
  get : journal_Get_k P F
def plan (p : Int) (data : List UInt8) : List Op := halves 1 (data.take 16) (data.drop 16) ++ topL (headL p.toNat) ++ halves (home p) (data.take 16) (data.drop 16) ++ topL zs
def planOk (d : Dsk) (p : Int) (data : List UInt8) : Prop := usable d ∧ valid p ∧ data.length = 32
instance (d : Dsk) (p : Int) (data : List UInt8) : Decidable (planOk d p data) := by unfold planOk; infer_instance
def planL (d : Dsk) (p : Int) (data : List UInt8) : List Op := if planOk d p data then plan p data else []
def planE (d : Dsk) (p : Int) (data : List UInt8) : Int := if planOk d p data then 0 else 1
def getS (d : Dsk) (n : Nat) : List UInt8 := d.read (2 * n + 1) ++ d.read (2 * n + 2)
def getOk (d : Dsk) (p : Int) : Prop := usable d ∧ valid p
instance (d : Dsk) (p : Int) : Decidable (getOk d p) := by unfold getOk; infer_instance
def get (d : Dsk) (p : Int) : List UInt8 × Int := if getOk d p then (getS d p.toNat, 0) else ([], 1)
def repair (d : Dsk) : List Op :=
  if usable d then (if d.read 0 = zs then [] else (if hdN (d.read 0) ≠ 0 then halves (home (hdN (d.read 0))) (d.read 1) (d.read 2) else []) ++ topL zs) else []
def recover (d : Dsk) : Dsk := runL d (repair d)
def commitD (d : Dsk) (p : Int) (data : List UInt8) : Dsk := if planOk d p data then runL d (plan p data) else d
section
variable {P : Program} {F : Nat → Nat}
set_option maxHeartbeats 8000000 in
set_option maxRecDepth 100000 in
theorem headed_ok (K : KJ P F) (s : List UInt8) : FnOk P (F 125) [.one (.str s)] [.one (.im (.int .i64 (hdN s))), .one (.im (.bool (decide (hdN s ≠ 0))))] := by
  refine fnOk K.k.m K.headed ?_
  repeat' first
    | (with_reducible first | refine NeedI.mk (fun h => h) ?_ | refine NeedI.mk (fun h => h.2) ?_ | refine NeedI.mk (fun h => h.1) ?_ | exact Done.mk | refine Both.mk (fun _ => ?_) (fun _ => ?_) | refine Both2.mk (fun _ => ?_) ?_ | refine Need.mk (by first | omega | with_reducible exact CEq.refl _) ?_)
    | ((with_reducible fail_if_success first | refine LoopVC.mk ?_ | refine Need.mk ?_ ?_ | refine CallVC.mk ?_ | refine LoopEnd.mk ?_ | refine Out.mk ?_ | show False | refine NeedI.mk ?_ ?_); conv => whnf)
  refine LoopVC.inv (fun i : Nat => i ≤ 16 ∧ ∀ k, k < i → s ≠ headL (k + 1)) (fun i => stL [(0, .c (.str s)), (4, .c (.int .i64 (i + 1)))] []) (fun i => 16 - i) 0 ⟨by omega, fun k hk => by omega⟩ (Le.of ⟨CEq.refl _, rfl, trivial⟩ trivial) ?_
  rintro Q hQ i ⟨hi, hn⟩
  repeat' first
    | (with_reducible first | refine NeedI.mk (fun h => h) ?_ | refine NeedI.mk (fun h => h.2) ?_ | refine NeedI.mk (fun h => h.1) ?_ | exact Done.mk | refine Both.mk (fun _ => ?_) (fun _ => ?_) | refine Both2.mk (fun _ => ?_) ?_ | refine Need.mk (by first | omega | with_reducible exact CEq.refl _ | (simp only [decide_eq_true_eq, decide_eq_false_iff_not, Bool.or_eq_true, Bool.and_eq_true, Bool.or_eq_false_iff, Int.toNat_natCast, addN_eq, cond_false, cond_true, rng] at *; omega)) ?_)
    | ((with_reducible fail_if_success first | refine LoopVC.mk ?_ | refine Need.mk ?_ ?_ | refine CallVC.mk ?_ | refine LoopEnd.mk ?_ | refine Out.mk ?_ | show False | refine NeedI.mk ?_ ?_); conv => whnf)
  · rename_i h3
    simp only [decide_eq_true_eq] at h3
    refine CallVC.mk' (fun _ => head_ok K.k.m K.head (i + 1) (by omega)) (fun _ => .cons (.one (eI (by push_cast; rfl))) .nil) ?_
    repeat' first
      | (with_reducible first | refine NeedI.mk (fun h => h) ?_ | refine NeedI.mk (fun h => h.2) ?_ | refine NeedI.mk (fun h => h.1) ?_ | exact Done.mk | refine Both.mk (fun _ => ?_) (fun _ => ?_) | refine Both2.mk (fun _ => ?_) ?_ | refine Need.mk (by first | omega | with_reducible exact CEq.refl _ | (simp only [decide_eq_true_eq, decide_eq_false_iff_not, Bool.or_eq_true, Bool.and_eq_true, Bool.or_eq_false_iff, Int.toNat_natCast, addN_eq, cond_false, cond_true, rng] at *; omega)) ?_)
      | ((with_reducible fail_if_success first | refine LoopVC.mk ?_ | refine Need.mk ?_ ?_ | refine CallVC.mk ?_ | refine LoopEnd.mk ?_ | refine Out.mk ?_ | show False | refine NeedI.mk ?_ ?_); conv => whnf)
    · rename_i h4
      have h4 : s = headL (i + 1) := of_decide_eq_true h4
      refine Out.mk (hQ _ _ ?_)
      have e : hdN s = i + 1 := by rw [h4]; exact hdN_head (by omega) (by omega)
      rw [e]
      repeat' first
        | (with_reducible first | refine NeedI.mk (fun h => h) ?_ | refine NeedI.mk (fun h => h.2) ?_ | refine NeedI.mk (fun h => h.1) ?_ | exact Done.mk | refine Both.mk (fun _ => ?_) (fun _ => ?_) | refine Both2.mk (fun _ => ?_) ?_ | refine Need.mk (by with_reducible exact Nat.le_of_eq (Nat.zero_add _)) ?_)
        | ((with_reducible fail_if_success first | refine LoopVC.mk ?_ | refine Need.mk ?_ ?_ | refine CallVC.mk ?_ | refine LoopEnd.mk ?_ | refine Out.mk ?_ | show False | refine NeedI.mk ?_ ?_); conv => whnf)
      refine Need.mk (eI (by push_cast; rfl)) ?_
      repeat' first
        | (with_reducible first | refine NeedI.mk (fun h => h) ?_ | refine NeedI.mk (fun h => h.2) ?_ | refine NeedI.mk (fun h => h.1) ?_ | exact Done.mk | refine Both.mk (fun _ => ?_) (fun _ => ?_) | refine Both2.mk (fun _ => ?_) ?_ | refine Need.mk (by with_reducible exact Nat.le_of_eq (Nat.zero_add _)) ?_)
        | ((with_reducible fail_if_success first | refine LoopVC.mk ?_ | refine Need.mk ?_ ?_ | refine CallVC.mk ?_ | refine LoopEnd.mk ?_ | refine Out.mk ?_ | show False | refine NeedI.mk ?_ ?_); conv => whnf)
      refine Need.mk (eB (by symm; rw [decide_eq_true_eq]; omega)) ?_
      repeat' first
        | (with_reducible first | refine NeedI.mk (fun h => h) ?_ | refine NeedI.mk (fun h => h.2) ?_ | refine NeedI.mk (fun h => h.1) ?_ | exact Done.mk | refine Both.mk (fun _ => ?_) (fun _ => ?_) | refine Both2.mk (fun _ => ?_) ?_ | refine Need.mk (by with_reducible exact Nat.le_of_eq (Nat.zero_add _)) ?_)
        | ((with_reducible fail_if_success first | refine LoopVC.mk ?_ | refine Need.mk ?_ ?_ | refine CallVC.mk ?_ | refine LoopEnd.mk ?_ | refine Out.mk ?_ | show False | refine NeedI.mk ?_ ?_); conv => whnf)
    · rename_i h4
      have h4 : s ≠ headL (i + 1) := of_decide_eq_false h4
      refine LoopEnd.mk ⟨i + 1, ⟨by omega, fun k hk => ?_⟩, by omega, Le.of ⟨CEq.refl _, cI (by push_cast; rfl), trivial⟩ trivial⟩
      rcases Nat.lt_or_ge k i with h | h
      · exact hn k h
      · obtain rfl : k = i := by omega
        exact h4
  · rename_i h3
    simp only [decide_eq_false_iff_not] at h3
    obtain rfl : i = 16 := by omega
    refine Out.mk (hQ _ _ ?_)
    have e : hdN s = 0 := if_neg fun h => by
      obtain ⟨j, hj, hp⟩ := fstN_lt_iff.1 h
      exact hn j hj (of_decide_eq_true hp)
    rw [e]
    repeat' first
      | (with_reducible first | refine NeedI.mk (fun h => h) ?_ | refine NeedI.mk (fun h => h.2) ?_ | refine NeedI.mk (fun h => h.1) ?_ | exact Done.mk | refine Both.mk (fun _ => ?_) (fun _ => ?_) | refine Both2.mk (fun _ => ?_) ?_ | refine Need.mk (by with_reducible exact Nat.le_of_eq (Nat.zero_add _)) ?_)
      | ((with_reducible fail_if_success first | refine LoopVC.mk ?_ | refine Need.mk ?_ ?_ | refine CallVC.mk ?_ | refine LoopEnd.mk ?_ | refine Out.mk ?_ | show False | refine NeedI.mk ?_ ?_); conv => whnf)
    refine Need.mk (CEq.refl _) ?_
    repeat' first
      | (with_reducible first | refine NeedI.mk (fun h => h) ?_ | refine NeedI.mk (fun h => h.2) ?_ | refine NeedI.mk (fun h => h.1) ?_ | exact Done.mk | refine Both.mk (fun _ => ?_) (fun _ => ?_) | refine Both2.mk (fun _ => ?_) ?_ | refine Need.mk (by with_reducible exact Nat.le_of_eq (Nat.zero_add _)) ?_)
      | ((with_reducible fail_if_success first | refine LoopVC.mk ?_ | refine Need.mk ?_ ?_ | refine CallVC.mk ?_ | refine LoopEnd.mk ?_ | refine Out.mk ?_ | show False | refine NeedI.mk ?_ ?_); conv => whnf)
    refine Need.mk (CEq.refl _) ?_
    repeat' first
      | (with_reducible first | refine NeedI.mk (fun h => h) ?_ | refine NeedI.mk (fun h => h.2) ?_ | refine NeedI.mk (fun h => h.1) ?_ | exact Done.mk | refine Both.mk (fun _ => ?_) (fun _ => ?_) | refine Both2.mk (fun _ => ?_) ?_ | refine Need.mk (by with_reducible exact Nat.le_of_eq (Nat.zero_add _)) ?_)
      | ((with_reducible fail_if_success first | refine LoopVC.mk ?_ | refine Need.mk ?_ ?_ | refine CallVC.mk ?_ | refine LoopEnd.mk ?_ | refine Out.mk ?_ | show False | refine NeedI.mk ?_ ?_); conv => whnf)
end
end Lk.S12
namespace Lk.S12
open Go Lk Lk.S03
/-- What a place reads behind operations. -/
def rdO (l : List Op) (i : Nat) (s : List UInt8) : List UInt8 := l.foldl (fun s o => if o.sync = false ∧ o.w.at_ = (i : Int) then o.w.data else s) s
/-- Operations of a disk of n sectors. -/
def okO (n : Nat) (l : List Op) : Prop := ∀ o ∈ l, o.sync = false → 0 ≤ o.w.at_ ∧ o.w.at_ < (n : Int) ∧ o.w.data.length = 16
theorem okO.cons {n : Nat} {o : Op} {l : List Op} (h : okO n (o :: l)) : okO n l := fun x hx => h x (List.mem_cons_of_mem _ hx)
theorem okO.app {n : Nat} {l m : List Op} (h : okO n l) (k : okO n m) : okO n (l ++ m) := fun x hx => (List.mem_append.1 hx).elim (h x) (k x)
theorem okO.take {n k : Nat} {l : List Op} (h : okO n l) : okO n (l.take k) := fun x hx => h x (List.mem_of_mem_take hx)
theorem stepR_len {d : Dsk} {o : Op} (h : right d) : (stepR d o).secs.length = d.secs.length := by
  unfold stepR; split
  · exact sync_len h
  · exact put_len
theorem stepR_right {d : Dsk} {o : Op} (h : right d) : right (stepR d o) := by
  unfold stepR; split
  · exact h.sync
  · exact h.put
theorem stepR_cache {d : Dsk} {o : Op} (h : right d) : (stepR d o).cache.length ≤ d.cache.length + 1 := by
  unfold stepR; split
  · rw [sync_cache h]; simp
  · unfold Dsk.put; split
    · simp
    · omega
theorem stepR_read {d : Dsk} {o : Op} {i : Nat} (h : right d) (hi : i < d.secs.length) (hc : d.cache.length < 200) (ho : o.sync = false → 0 ≤ o.w.at_ ∧ o.w.at_ < (d.secs.length : Int) ∧ o.w.data.length = 16) :
    (stepR d o).read i = if o.sync = false ∧ o.w.at_ = (i : Int) then o.w.data else d.read i := by
  unfold stepR
  cases hs : o.sync with
  | true => simp only [if_true]; rw [if_neg (by simp)]; exact read_sync h hi
  | false =>
    rw [if_neg (by simp), read_put h]
    have hf : fits d o.w := ho hs
    have he : d.putE o.w = 0 := by unfold Dsk.putE; rw [if_pos ⟨h, hf⟩]; exact if_pos hc
    by_cases e : o.w.at_ = (i : Int)
    · rw [if_pos ⟨he, e.symm⟩, if_pos ⟨rfl, e⟩]
    · rw [if_neg (fun x => e x.2.symm), if_neg (fun x => e x.2)]
theorem runL_all {l : List Op} : ∀ {d : Dsk}, right d → okO d.secs.length l → d.cache.length + l.length ≤ 200 →
    right (runL d l) ∧ (runL d l).secs.length = d.secs.length ∧ ∀ i, i < d.secs.length → (runL d l).read i = rdO l i (d.read i) := by
  induction l with
  | nil => intro d h _ _; exact ⟨h, rfl, fun i _ => rfl⟩
  | cons o l ih =>
    intro d h ho hc
    have hc : d.cache.length + (l.length + 1) ≤ 200 := hc
    have h1 := stepR_len (o := o) h
    have h2 := stepR_cache (o := o) h
    obtain ⟨a, b, c⟩ := ih (stepR_right (o := o) h) (by rw [h1]; exact ho.cons) (by omega)
    refine ⟨a, b.trans h1, fun i hi => ?_⟩
    show (runL (stepR d o) l).read i = rdO l i (if o.sync = false ∧ o.w.at_ = (i : Int) then o.w.data else d.read i)
    rw [c i (by omega), stepR_read h hi (by omega) (ho o (List.mem_cons_self ..))]
theorem runL_app {d : Dsk} {l m : List Op} : runL d (l ++ m) = runL (runL d l) m := by unfold runL; rw [List.foldl_append]
/-- Behind a sync nothing waits. -/
theorem runL_calm {d : Dsk} {l : List Op} {o : Op} (h : right (runL d l)) (hs : o.sync = true) : (runL d (l ++ [o])).cache = [] := by
  rw [runL_snoc]; unfold stepR; rw [if_pos hs]; exact sync_cache h
/-- Writes alone wait. -/
theorem runL_puts {l : List Op} : ∀ {d : Dsk}, right d → okO d.secs.length l → (∀ o ∈ l, o.sync = false) → d.cache.length + l.length ≤ 200 → runL d l = ⟨d.secs, d.cache ++ l.map (·.w)⟩ := by
  induction l with
  | nil => intro d _ _ _ _; simp [runL]
  | cons o l ih =>
    intro d h ho hs hc
    have hc : d.cache.length + (l.length + 1) ≤ 200 := hc
    have h0 := hs o (List.mem_cons_self ..)
    have he : stepR d o = ⟨d.secs, d.cache ++ [o.w]⟩ := by
      unfold stepR; rw [if_neg (by simp [h0])]
      unfold Dsk.put; exact if_pos ⟨h, ho o (List.mem_cons_self ..) h0, by omega⟩
    show runL (stepR d o) l = _
    have hr := stepR_right (o := o) h
    rw [he] at hr ⊢
    rw [ih hr ho.cons (fun x hx => hs x (List.mem_cons_of_mem _ hx)) (by simp; omega)]
    simp
theorem read_calm {d : Dsk} (h : d.cache = []) (i : Nat) : d.read i = d.secs.getD i [] := by unfold Dsk.read; rw [h]; rfl
/-- A disk of 35 sectors on which nothing waits. -/
structure Calm (d : Dsk) : Prop where
  r : right d
  n : d.secs.length = 35
  c : d.cache = []
theorem Calm.usable {d : Dsk} (h : Calm d) : usable d := ⟨h.r, by rw [h.n]; exact Nat.le_refl _⟩
theorem Calm.ext {d e : Dsk} (h : Calm d) (k : Calm e) (hr : ∀ i, i < 35 → d.read i = e.read i) : d = e := by
  obtain ⟨ds, dc⟩ := d
  obtain ⟨es, ec⟩ := e
  obtain ⟨_, h2, rfl⟩ := h
  obtain ⟨_, k2, rfl⟩ := k
  congr 1
  have h2 : ds.length = 35 := h2
  have k2 : es.length = 35 := k2
  refine eq_of_getD (by omega) fun i hi => ?_
  exact hr i (by omega)
/-- A crash behind operations: each place reads what was synced, or what was written behind it. -/
theorem crash_run {d : Dsk} {l m : List Op} {keep : List Int} (h : right d) (hn : d.secs.length = 35) (hl : okO 35 l) (hm : okO 35 m) (hc : d.cache.length + (l.length + m.length) ≤ 200) (hs : ∀ o ∈ m, o.sync = false) (hcalm : (runL d l).cache = []) :
    Calm ((runL d (l ++ m)).crash keep) ∧ ∀ i, i < 35 → ((runL d (l ++ m)).crash keep).read i = rdO l i (d.read i) ∨ ∃ o ∈ m, o.w.at_ = (i : Int) ∧ ((runL d (l ++ m)).crash keep).read i = o.w.data := by
  obtain ⟨r1, n1, e1⟩ := runL_all h (by rw [hn]; exact hl) (by omega)
  have r2 := runL_puts r1 (by rw [n1, hn]; exact hm) hs (by rw [hcalm]; simp; omega)
  have r3 := (runL_all r1 (l := m) (by rw [n1, hn]; exact hm) (by rw [hcalm]; simp; omega)).1
  rw [← runL_app] at r2 r3
  have hcr : (runL d (l ++ m)).crash keep = ⟨wrS (runL d (l ++ m)).secs (kpL (runL d (l ++ m)).cache keep (runL d (l ++ m)).cache.length), []⟩ := if_pos r3
  have n3 : (runL d (l ++ m)).secs.length = 35 := by rw [r2]; show (runL d l).secs.length = 35; omega
  have hlen : ((runL d (l ++ m)).crash keep).secs.length = 35 := by rw [hcr]; show (wrS _ _).length = 35; rw [wrS_len, n3]
  have hcc : ((runL d (l ++ m)).crash keep).cache = [] := by rw [hcr]
  refine ⟨⟨r3.crash, hlen, hcc⟩, fun i hi => ?_⟩
  have hrd : ((runL d (l ++ m)).crash keep).read i = rdL (kpL (runL d (l ++ m)).cache keep (runL d (l ++ m)).cache.length) i ((runL d (l ++ m)).secs.getD i default) := by
    rw [read_calm hcc, hcr]
    exact wrS_at (by omega) fun w hw => r3.rng w (kpL_mem (Nat.le_refl _) w hw)
  rw [hrd]
  have hsec : (runL d (l ++ m)).secs.getD i default = rdO l i (d.read i) := by
    rw [← e1 i (by omega), read_calm hcalm, r2]; rfl
  rcases rdL_mem (l := kpL (runL d (l ++ m)).cache keep (runL d (l ++ m)).cache.length) (at_ := i) (s := (runL d (l ++ m)).secs.getD i default) with h1 | ⟨w, hw, h1, h2⟩
  · exact .inl (h1.trans hsec)
  · right
    have hw := kpL_mem (Nat.le_refl _) w hw
    rw [r2, hcalm, List.nil_append] at hw
    obtain ⟨o, ho, rfl⟩ := List.mem_map.1 hw
    exact ⟨o, ho, h1, h2⟩
end Lk.S12
namespace Lk.S12
open Go Lk Lk.S03
theorem plan_eq {n : Nat} {data : List UInt8} : plan n data = [⟨false, ⟨1, data.take 16⟩⟩, ⟨false, ⟨2, data.drop 16⟩⟩, ⟨true, ⟨0, []⟩⟩, ⟨false, ⟨0, headL n⟩⟩, ⟨true, ⟨0, []⟩⟩,
    ⟨false, ⟨(2 * n + 1 : Nat), data.take 16⟩⟩, ⟨false, ⟨(2 * n + 2 : Nat), data.drop 16⟩⟩, ⟨true, ⟨0, []⟩⟩, ⟨false, ⟨0, zs⟩⟩, ⟨true, ⟨0, []⟩⟩] := by
  unfold plan halves topL home
  simp only [List.cons_append, List.nil_append, Int.toNat_natCast]
  have e1 : (2 * (n : Int) + 1) = ((2 * n + 1 : Nat) : Int) := by push_cast; rfl
  have e2 : (2 * (n : Int) + 1 + 1) = ((2 * n + 2 : Nat) : Int) := by push_cast; omega
  rw [e2, e1]; rfl
theorem plan_len {p : Int} {data : List UInt8} : (plan p data).length = 10 := rfl
theorem plan_ok0 {n : Nat} {data : List UInt8} (h1 : 1 ≤ n) (h2 : n ≤ 16) (hd : data.length = 32) : okO 35 (plan n data) := by
  rw [plan_eq]
  have hz : zs.length = 16 := rfl
  have hh := headL_len n
  have ht : (data.take 16).length = 16 := by rw [List.length_take]; omega
  have hr : (data.drop 16).length = 16 := by rw [List.length_drop]; omega
  intro o ho
  simp only [List.mem_cons, List.not_mem_nil, or_false] at ho
  rcases ho with rfl | rfl | rfl | rfl | rfl | rfl | rfl | rfl | rfl | rfl <;> intro h <;> first | (simp at h; done) | (refine ⟨?_, ?_, ?_⟩ <;> dsimp only <;> first | assumption | omega)
theorem rdO_none {l : List Op} {i : Nat} {s : List UInt8} (h : ∀ o ∈ l, o.sync = false → o.w.at_ ≠ (i : Int)) : rdO l i s = s := by
  induction l generalizing s with
  | nil => rfl
  | cons o l ih =>
    show rdO l i (if _ then _ else _) = s
    rw [if_neg (fun y => h o (List.mem_cons_self ..) y.1 y.2)]
    exact ih fun x hx => h x (List.mem_cons_of_mem _ hx)
theorem plan_at {n : Nat} {data : List UInt8} : ∀ o ∈ plan n data, o.w.at_ = 0 ∨ o.w.at_ = 1 ∨ o.w.at_ = 2 ∨ o.w.at_ = (2 * n + 1 : Nat) ∨ o.w.at_ = (2 * n + 2 : Nat) := by
  rw [plan_eq]
  intro o ho
  simp only [List.mem_cons, List.not_mem_nil, or_false] at ho
  rcases ho with rfl | rfl | rfl | rfl | rfl | rfl | rfl | rfl | rfl | rfl <;> simp
/-- The sectors of the pages. -/
def At (r : Nat → List UInt8) (q : Nat) (x y : List UInt8) : Prop := r (2 * q + 1) = x ∧ r (2 * q + 2) = y
/-- What holds behind a crash: r0 was read, page n is to be a and b. -/
structure Inv (r0 r : Nat → List UInt8) (n : Nat) (a b : List UInt8) : Prop where
  oth : ∀ q, 1 ≤ q → q ≤ 16 → q ≠ n → At r q (r0 (2 * q + 1)) (r0 (2 * q + 2))
  st : (r 0 = zs ∧ (At r n (r0 (2 * n + 1)) (r0 (2 * n + 2)) ∨ At r n a b)) ∨ (r 0 = headL n ∧ r 1 = a ∧ r 2 = b)
theorem rdO_nil {i : Nat} {s : List UInt8} : rdO [] i s = s := rfl
theorem rdO_sync {w : Wr} {l : List Op} {i : Nat} {s : List UInt8} : rdO (⟨true, w⟩ :: l) i s = rdO l i s := by
  show rdO l i (if _ then _ else _) = _; rw [if_neg (by simp)]
theorem rdO_hit {k : Nat} {x : List UInt8} {l : List Op} {s : List UInt8} : rdO (⟨false, ⟨k, x⟩⟩ :: l) k s = rdO l k x := by
  show rdO l k (if _ then _ else _) = _; rw [if_pos ⟨rfl, rfl⟩]
theorem rdO_miss {k i : Nat} {x : List UInt8} {l : List Op} {s : List UInt8} (h : k ≠ i) : rdO (⟨false, ⟨k, x⟩⟩ :: l) i s = rdO l i s := by
  show rdO l i (if _ then _ else _) = _; rw [if_neg (fun y => h (by have : (k : Int) = i := y.2; omega))]
theorem rdO_if {k i : Nat} {x : List UInt8} {l : List Op} {s : List UInt8} : rdO (⟨false, ⟨k, x⟩⟩ :: l) i s = if k = i then rdO l i x else rdO l i s := by
  split
  · rename_i h; subst h; exact rdO_hit
  · rename_i h; exact rdO_miss h
theorem rdO_if0 {i : Nat} {x : List UInt8} {l : List Op} {s : List UInt8} : rdO (⟨false, ⟨0, x⟩⟩ :: l) i s = if 0 = i then rdO l i x else rdO l i s := rdO_if (k := 0)
theorem rdO_if1 {i : Nat} {x : List UInt8} {l : List Op} {s : List UInt8} : rdO (⟨false, ⟨1, x⟩⟩ :: l) i s = if 1 = i then rdO l i x else rdO l i s := rdO_if (k := 1)
theorem rdO_if2 {i : Nat} {x : List UInt8} {l : List Op} {s : List UInt8} : rdO (⟨false, ⟨2, x⟩⟩ :: l) i s = if 2 = i then rdO l i x else rdO l i s := rdO_if (k := 2)
/-- All of a plan. -/
theorem plan_read {n i : Nat} {data s : List UInt8} (h1 : 1 ≤ n) : rdO (plan n data) i s =
    if i = 0 then zs else if i = 1 then data.take 16 else if i = 2 then data.drop 16 else if i = 2 * n + 1 then data.take 16 else if i = 2 * n + 2 then data.drop 16 else s := by
  rw [plan_eq]
  simp only [rdO_if, rdO_if0, rdO_if1, rdO_if2, rdO_sync, rdO_nil]
  repeat' split
  all_goals first | rfl | omega
theorem plan_calm {d : Dsk} {n : Nat} {data : List UInt8} (h : Calm d) (h1 : 1 ≤ n) (h2 : n ≤ 16) (hd : data.length = 32) : Calm (runL d (plan n data)) := by
  obtain ⟨a, b, c⟩ := runL_all h.r (by rw [h.n]; exact plan_ok0 h1 h2 hd) (by rw [h.c, plan_len]; decide)
  refine ⟨a, b.trans h.n, ?_⟩
  have e : plan n data = (plan n data).take 9 ++ [⟨true, ⟨0, []⟩⟩] := rfl
  rw [e]
  refine runL_calm ?_ rfl
  exact (runL_all h.r (by rw [h.n]; exact (plan_ok0 h1 h2 hd).take) (by rw [h.c, List.length_take]; simp; omega)).1
theorem plan_rd {d : Dsk} {n i : Nat} {data : List UInt8} (h : Calm d) (h1 : 1 ≤ n) (h2 : n ≤ 16) (hd : data.length = 32) (hi : i < 35) : (runL d (plan n data)).read i =
    if i = 0 then zs else if i = 1 then data.take 16 else if i = 2 then data.drop 16 else if i = 2 * n + 1 then data.take 16 else if i = 2 * n + 2 then data.drop 16 else d.read i := by
  rw [(runL_all h.r (by rw [h.n]; exact plan_ok0 h1 h2 hd) (by rw [h.c, plan_len]; decide)).2.2 i (by rw [h.n]; exact hi), plan_read h1]
theorem repair_zs {d : Dsk} (h : d.read 0 = zs) : repair d = [] := by
  unfold repair; rw [if_pos h]; split <;> rfl
theorem repair_head {d : Dsk} {n : Nat} (hu : usable d) (h1 : 1 ≤ n) (h2 : n ≤ 16) (h : d.read 0 = headL n) : repair d = halves (home n) (d.read 1) (d.read 2) ++ topL zs := by
  unfold repair
  rw [if_pos hu, h, if_neg (headL_ne n), hdN_head h1 h2, if_pos (by omega)]
theorem rep_eq {n : Nat} {a b : List UInt8} : halves (home n) a b ++ topL zs = [⟨false, ⟨(2 * n + 1 : Nat), a⟩⟩, ⟨false, ⟨(2 * n + 2 : Nat), b⟩⟩, ⟨true, ⟨0, []⟩⟩, ⟨false, ⟨0, zs⟩⟩, ⟨true, ⟨0, []⟩⟩] := by
  unfold halves topL home
  simp only [List.cons_append, List.nil_append]
  have e1 : (2 * (n : Int) + 1) = ((2 * n + 1 : Nat) : Int) := by push_cast; rfl
  have e2 : (2 * (n : Int) + 1 + 1) = ((2 * n + 2 : Nat) : Int) := by push_cast; omega
  rw [e2, e1]
theorem rep_ok {n : Nat} {a b : List UInt8} (h2 : n ≤ 16) (ha : a.length = 16) (hb : b.length = 16) : okO 35 (halves (home n) a b ++ topL zs) := by
  rw [rep_eq]
  have hz : zs.length = 16 := rfl
  intro o ho
  simp only [List.mem_cons, List.not_mem_nil, or_false] at ho
  rcases ho with rfl | rfl | rfl | rfl | rfl <;> intro h <;> first | (simp at h; done) | (refine ⟨?_, ?_, ?_⟩ <;> dsimp only <;> first | assumption | omega)
theorem rep_read {n i : Nat} {a b s : List UInt8} : rdO (halves (home n) a b ++ topL zs) i s = if i = 0 then zs else if i = 2 * n + 1 then a else if i = 2 * n + 2 then b else s := by
  rw [rep_eq]
  simp only [rdO_if, rdO_if0, rdO_sync, rdO_nil]
  repeat' split
  all_goals first | rfl | omega
/-- What the places read behind a crash. -/
theorem cut_inv {f : Nat → List UInt8} {n : Nat} {data : List UInt8} (h0 : f 0 = zs) (h1 : 1 ≤ n) (h2 : n ≤ 16) (r : Nat → List UInt8) (m j : Nat) (hmj : (m = 0 ∧ j = 0) ∨ (m = 0 ∧ j = 1) ∨ (m = 0 ∧ j = 2) ∨ (m = 3 ∧ j = 0) ∨ (m = 3 ∧ j = 1) ∨ (m = 5 ∧ j = 0) ∨ (m = 5 ∧ j = 1) ∨ (m = 5 ∧ j = 2) ∨ (m = 8 ∧ j = 0) ∨ (m = 8 ∧ j = 1) ∨ (m = 10 ∧ j = 0))
    (hr : ∀ i, i < 35 → r i = rdO ((plan n data).take m) i (f i) ∨ ∃ o ∈ ((plan n data).drop m).take j, o.w.at_ = (i : Int) ∧ r i = o.w.data) : Inv f r n (data.take 16) (data.drop 16) ∧ (m = 10 → r 0 = zs ∧ At r n (data.take 16) (data.drop 16)) := by
  have k0 := hr 0 (by omega)
  have k1 := hr 1 (by omega)
  have k2 := hr 2 (by omega)
  have ka := hr (2 * n + 1) (by omega)
  have kb := hr (2 * n + 2) (by omega)
  have ko : ∀ q, 1 ≤ q → q ≤ 16 → q ≠ n → r (2 * q + 1) = f (2 * q + 1) ∧ r (2 * q + 2) = f (2 * q + 2) := fun q q1 q2 qn => by
    have x := hr (2 * q + 1) (by omega)
    have y := hr (2 * q + 2) (by omega)
    rw [rdO_none fun o ho hs he => by have := plan_at o (List.mem_of_mem_take ho); omega] at x y
    refine ⟨x.resolve_right ?_, y.resolve_right ?_⟩
    · rintro ⟨o, ho, he, -⟩
      have := plan_at o (List.mem_of_mem_drop (List.mem_of_mem_take ho)); omega
    · rintro ⟨o, ho, he, -⟩
      have := plan_at o (List.mem_of_mem_drop (List.mem_of_mem_take ho)); omega
  clear hr
  rw [plan_eq] at k0 k1 k2 ka kb
  have f1 : ((0 : Int) = ((2 * n + 1 : Nat) : Int)) = False := eq_false (by omega)
  have f2 : ((0 : Int) = ((2 * n + 2 : Nat) : Int)) = False := eq_false (by omega)
  have f3 : ((1 : Int) = ((2 * n + 1 : Nat) : Int)) = False := eq_false (by omega)
  have f4 : ((1 : Int) = ((2 * n + 2 : Nat) : Int)) = False := eq_false (by omega)
  have f5 : ((2 : Int) = ((2 * n + 1 : Nat) : Int)) = False := eq_false (by omega)
  have f6 : ((2 : Int) = ((2 * n + 2 : Nat) : Int)) = False := eq_false (by omega)
  have f7 : (((2 * n + 1 : Nat) : Int) = ((0 : Nat) : Int)) = False := eq_false (by omega)
  have f8 : (((2 * n + 1 : Nat) : Int) = ((1 : Nat) : Int)) = False := eq_false (by omega)
  have f9 : (((2 * n + 1 : Nat) : Int) = ((2 : Nat) : Int)) = False := eq_false (by omega)
  have f10 : (((2 * n + 2 : Nat) : Int) = ((0 : Nat) : Int)) = False := eq_false (by omega)
  have f11 : (((2 * n + 2 : Nat) : Int) = ((1 : Nat) : Int)) = False := eq_false (by omega)
  have f12 : (((2 * n + 2 : Nat) : Int) = ((2 : Nat) : Int)) = False := eq_false (by omega)
  have f13 : (((2 * n + 2 : Nat) : Int) = ((2 * n + 1 : Nat) : Int)) = False := eq_false (by omega)
  have f14 : (((2 * n + 1 : Nat) : Int) = ((2 * n + 2 : Nat) : Int)) = False := eq_false (by omega)
  have g1 : (0 = 2 * n + 1) = False := eq_false (by omega)
  have g2 : (0 = 2 * n + 2) = False := eq_false (by omega)
  have g3 : (1 = 2 * n + 1) = False := eq_false (by omega)
  have g4 : (1 = 2 * n + 2) = False := eq_false (by omega)
  have g5 : (2 = 2 * n + 1) = False := eq_false (by omega)
  have g6 : (2 = 2 * n + 2) = False := eq_false (by omega)
  have g7 : (2 * n + 1 = 0) = False := eq_false (by omega)
  have g8 : (2 * n + 1 = 1) = False := eq_false (by omega)
  have g9 : (2 * n + 1 = 2) = False := eq_false (by omega)
  have g10 : (2 * n + 2 = 0) = False := eq_false (by omega)
  have g11 : (2 * n + 2 = 1) = False := eq_false (by omega)
  have g12 : (2 * n + 2 = 2) = False := eq_false (by omega)
  have g13 : (2 * n + 2 = 2 * n + 1) = False := eq_false (by omega)
  have g14 : (2 * n + 1 = 2 * n + 2) = False := eq_false (by omega)
  have z1 : ((1 : Int) = ((0 : Nat) : Int)) = False := eq_false (by omega)
  have z2 : ((2 : Int) = ((0 : Nat) : Int)) = False := eq_false (by omega)
  have z3 : ((0 : Int) = ((1 : Nat) : Int)) = False := eq_false (by omega)
  have z4 : ((0 : Int) = ((2 : Nat) : Int)) = False := eq_false (by omega)
  have z5 : ((2 : Int) = ((1 : Nat) : Int)) = False := eq_false (by omega)
  have z6 : ((1 : Int) = ((2 : Nat) : Int)) = False := eq_false (by omega)
  have y0 : ((0 : Int) = ((0 : Nat) : Int)) = True := eq_true rfl
  have y1 : ((1 : Int) = ((1 : Nat) : Int)) = True := eq_true rfl
  have y2 : ((2 : Int) = ((2 : Nat) : Int)) = True := eq_true rfl
  have w1 : ((0 : Nat) = 1) = False := eq_false (by omega)
  have w2 : ((0 : Nat) = 2) = False := eq_false (by omega)
  have w3 : ((1 : Nat) = 2) = False := eq_false (by omega)
  have w4 : ((1 : Nat) = 0) = False := eq_false (by omega)
  have w5 : ((2 : Nat) = 0) = False := eq_false (by omega)
  have w6 : ((2 : Nat) = 1) = False := eq_false (by omega)
  refine ⟨⟨ko, ?_⟩, ?_⟩
  all_goals
    rcases hmj with ⟨rfl, rfl⟩ | ⟨rfl, rfl⟩ | ⟨rfl, rfl⟩ | ⟨rfl, rfl⟩ | ⟨rfl, rfl⟩ | ⟨rfl, rfl⟩ | ⟨rfl, rfl⟩ | ⟨rfl, rfl⟩ | ⟨rfl, rfl⟩ | ⟨rfl, rfl⟩ | ⟨rfl, rfl⟩ <;>
    simp only [List.take_succ_cons, List.take_zero, List.drop_succ_cons, List.drop_zero, List.drop_nil, List.take_nil, rdO_if, rdO_if0, rdO_if1, rdO_if2, rdO_sync, rdO_nil, List.mem_cons, List.not_mem_nil, or_false, false_or, false_and, true_and, exists_const, exists_eq_or_imp, exists_eq_left,
      f1, f2, f3, f4, f5, f6, f7, f8, f9, f10, f11, f12, f13, f14, g1, g2, g3, g4, g5, g6, g7, g8, g9, g10, g11, g12, g13, g14, z1, z2, z3, z4, z5, z6, y0, y1, y2, w1, w2, w3, w4, w5, w6, if_false, if_true, h0] at k0 k1 k2 ka kb
  all_goals (clear f1 f2 f3 f4 f5 f6 f7 f8 f9 f10 f11 f12 f13 f14 g1 g2 g3 g4 g5 g6 g7 g8 g9 g10 g11 g12 g13 g14 z1 z2 z3 z4 z5 z6 y0 y1 y2 w1 w2 w3 w4 w5 w6)
  all_goals first
    | exact fun h => absurd h (by decide)
    | exact fun _ => ⟨k0, ka, kb⟩
    | exact .inl ⟨k0, .inl ⟨ka, kb⟩⟩
    | exact .inl ⟨k0, .inr ⟨ka, kb⟩⟩
    | exact .inr ⟨k0, k1, k2⟩
    | exact k0.elim (fun k0 => .inl ⟨k0, .inl ⟨ka, kb⟩⟩) (fun k0 => .inr ⟨k0, k1, k2⟩)
    | exact k0.elim (fun k0 => .inr ⟨k0, k1, k2⟩) (fun k0 => .inl ⟨k0, .inr ⟨ka, kb⟩⟩)
theorem rep_at {n : Nat} {a b : List UInt8} : ∀ o ∈ halves (home n) a b ++ topL zs, o.w.at_ = 0 ∨ o.w.at_ = (2 * n + 1 : Nat) ∨ o.w.at_ = (2 * n + 2 : Nat) := by
  rw [rep_eq]
  intro o ho
  simp only [List.mem_cons, List.not_mem_nil, or_false] at ho
  rcases ho with rfl | rfl | rfl | rfl | rfl <;> simp
/-- A plan's first part, a crash. -/
theorem plan_cut {d : Dsk} {n k : Nat} {data : List UInt8} {keep : List Int} (h : Calm d) (h0 : d.read 0 = zs) (h1 : 1 ≤ n) (h2 : n ≤ 16) (hd : data.length = 32) :
    Calm ((runL d ((plan n data).take k)).crash keep) ∧ Inv d.read ((runL d ((plan n data).take k)).crash keep).read n (data.take 16) (data.drop 16) ∧
    (10 ≤ k → ((runL d ((plan n data).take k)).crash keep).read 0 = zs ∧ At ((runL d ((plan n data).take k)).crash keep).read n (data.take 16) (data.drop 16)) := by
  have hp := plan_ok0 h1 h2 hd
  have key : ∀ m j : Nat, m + j ≤ 10 → (∀ o ∈ ((plan n data).drop m).take j, o.sync = false) → (runL d ((plan n data).take m)).cache = [] →
      Calm ((runL d ((plan n data).take (m + j))).crash keep) ∧ ∀ i, i < 35 → ((runL d ((plan n data).take (m + j))).crash keep).read i = rdO ((plan n data).take m) i (d.read i) ∨
        ∃ o ∈ ((plan n data).drop m).take j, o.w.at_ = (i : Int) ∧ ((runL d ((plan n data).take (m + j))).crash keep).read i = o.w.data := fun m j hmj hs hc => by
    have := crash_run (l := (plan n data).take m) (m := ((plan n data).drop m).take j) (keep := keep) h.r h.n hp.take (fun o ho => hp o (List.mem_of_mem_drop (List.mem_of_mem_take ho)))
      (by rw [h.c, List.length_take, List.length_take, List.length_drop, plan_len]; simp; omega) hs hc
    rw [← List.take_add] at this
    exact this
  have calm : ∀ m o, (plan n data).take (m + 1) = (plan n data).take m ++ [o] → o.sync = true → (runL d ((plan n data).take (m + 1))).cache = [] := fun m o e hs => by
    rw [e]
    exact runL_calm (runL_all h.r (by rw [h.n]; exact hp.take) (by rw [h.c, List.length_take, plan_len]; simp; omega)).1 hs
  have c0 : (runL d ((plan n data).take 0)).cache = [] := h.c
  have c3 : (runL d ((plan n data).take 3)).cache = [] := calm 2 ⟨true, ⟨0, []⟩⟩ rfl rfl
  have c5 : (runL d ((plan n data).take 5)).cache = [] := calm 4 ⟨true, ⟨0, []⟩⟩ rfl rfl
  have c8 : (runL d ((plan n data).take 8)).cache = [] := calm 7 ⟨true, ⟨0, []⟩⟩ rfl rfl
  have c10 : (runL d ((plan n data).take 10)).cache = [] := calm 9 ⟨true, ⟨0, []⟩⟩ rfl rfl
  have hk : (plan n data).take k = (plan n data).take (min k 10) := by
    rcases Nat.le_total k 10 with h | h
    · rw [Nat.min_eq_left h]
    · rw [Nat.min_eq_right h, List.take_of_length_le (by rw [plan_len]; exact h), List.take_of_length_le (by rw [plan_len]; exact Nat.le_refl _)]
  rw [hk]
  have hk10 : 10 ≤ k → min k 10 = 10 := Nat.min_eq_right
  have hmk : min k 10 ≤ 10 := Nat.min_le_right _ _
  generalize min k 10 = z at *
  have fin : ∀ m j : Nat, z = m + j → ((m = 0 ∧ j = 0) ∨ (m = 0 ∧ j = 1) ∨ (m = 0 ∧ j = 2) ∨ (m = 3 ∧ j = 0) ∨ (m = 3 ∧ j = 1) ∨ (m = 5 ∧ j = 0) ∨ (m = 5 ∧ j = 1) ∨ (m = 5 ∧ j = 2) ∨ (m = 8 ∧ j = 0) ∨ (m = 8 ∧ j = 1) ∨ (m = 10 ∧ j = 0)) →
      (∀ o ∈ ((plan n data).drop m).take j, o.sync = false) → (runL d ((plan n data).take m)).cache = [] → (10 ≤ k → m = 10) →
      Calm ((runL d ((plan n data).take z)).crash keep) ∧ Inv d.read ((runL d ((plan n data).take z)).crash keep).read n (data.take 16) (data.drop 16) ∧
      (10 ≤ k → ((runL d ((plan n data).take z)).crash keep).read 0 = zs ∧ At ((runL d ((plan n data).take z)).crash keep).read n (data.take 16) (data.drop 16)) := fun m j e hmj hs hc h10 => by
    subst e
    obtain ⟨k1, k2⟩ := key m j hmk hs hc
    obtain ⟨k3, k4⟩ := cut_inv h0 h1 h2 _ m j hmj k2
    exact ⟨k1, k3, fun h => k4 (h10 h)⟩
  rcases (show z = 0 ∨ z = 1 ∨ z = 2 ∨ z = 3 ∨ z = 4 ∨ z = 5 ∨ z = 6 ∨ z = 7 ∨ z = 8 ∨ z = 9 ∨ z = 10 by omega) with rfl | rfl | rfl | rfl | rfl | rfl | rfl | rfl | rfl | rfl | rfl
  · exact fin 0 0 rfl (by omega) (by intro o ho; simp at ho) c0 (by omega)
  · exact fin 0 1 rfl (by omega) (by rw [plan_eq]; simp) c0 (by omega)
  · exact fin 0 2 rfl (by omega) (by rw [plan_eq]; simp) c0 (by omega)
  · exact fin 3 0 rfl (by omega) (by intro o ho; simp at ho) c3 (by omega)
  · exact fin 3 1 rfl (by omega) (by rw [plan_eq]; simp) c3 (by omega)
  · exact fin 5 0 rfl (by omega) (by intro o ho; simp at ho) c5 (by omega)
  · exact fin 5 1 rfl (by omega) (by rw [plan_eq]; simp) c5 (by omega)
  · exact fin 5 2 rfl (by omega) (by rw [plan_eq]; simp) c5 (by omega)
  · exact fin 8 0 rfl (by omega) (by intro o ho; simp at ho) c8 (by omega)
  · exact fin 8 1 rfl (by omega) (by rw [plan_eq]; simp) c8 (by omega)
  · exact fin 10 0 rfl (by omega) (by intro o ho; simp at ho) c10 (by omega)
end Lk.S12
namespace Lk.S12
open Go Lk Lk.C Lk.S03
theorem read_len {d : Dsk} {i : Nat} (h : right d) (hi : i < d.secs.length) : (d.read i).length = 16 := by
  unfold Dsk.read
  rcases rdL_mem (l := d.cache) (at_ := (i : Int)) (s := d.secs.getD i []) with h1 | ⟨w, hw, h1, h2⟩
  · rw [h1]; exact h.2.2.2.1 _ (by rw [List.getD_eq_getElem?_getD, List.getElem?_eq_getElem hi]; exact List.getElem_mem hi)
  · rw [h2]; exact (h.2.2.2.2 w hw).2.2
section
variable {P : Program} {F : Nat → Nat}
set_option maxHeartbeats 8000000 in
set_option maxRecDepth 100000 in
theorem plan_ok (K : KJ P F) (d : Dsk) (p : Int) (data : List UInt8) (S : Small d) (hl : data.length ≤ 1000000) : FnOk P (F 97) [.many 2 (dskE d), .one (.int .i64 p), .one (.str data)] [.one (.im (slL 3 opE (planL d p data))), .one (.im (.int .i64 (planE d p data)))] := by
  refine fnOk K.k.m K.plan ?_
  repeat' first
    | (with_reducible first | refine NeedI.mk (fun h => h) ?_ | refine NeedI.mk (fun h => h.2) ?_ | refine NeedI.mk (fun h => h.1) ?_ | exact Done.mk | refine Both.mk (fun _ => ?_) (fun _ => ?_) | refine Both2.mk (fun _ => ?_) ?_ | refine Need.mk (by first | omega | with_reducible exact CEq.refl _ | (dsimp only; omega)) ?_)
    | ((with_reducible fail_if_success first | refine LoopVC.mk ?_ | refine Need.mk ?_ ?_ | refine CallVC.mk ?_ | refine LoopEnd.mk ?_ | refine Out.mk ?_ | show False | refine NeedI.mk ?_ ?_); conv => whnf)
  refine CallVC.mk' (fun _ => usable_ok K.k K.usable d S) (fun _ => .cons ((.many fun j hj => by (rcases (show j = 0 ∨ j = 1 by omega) with rfl | rfl <;> exact CEq.refl _))) .nil) ?_
  repeat' first
    | (with_reducible first | refine NeedI.mk (fun h => h) ?_ | refine NeedI.mk (fun h => h.2) ?_ | refine NeedI.mk (fun h => h.1) ?_ | exact Done.mk | refine Both.mk (fun _ => ?_) (fun _ => ?_) | refine Both2.mk (fun _ => ?_) ?_ | refine Need.mk (by first | omega | with_reducible exact CEq.refl _ | (dsimp only; omega)) ?_)
    | ((with_reducible fail_if_success first | refine LoopVC.mk ?_ | refine Need.mk ?_ ?_ | refine CallVC.mk ?_ | refine LoopEnd.mk ?_ | refine Out.mk ?_ | show False | refine NeedI.mk ?_ ?_); conv => whnf)
  refine CallVC.mk' (fun _ => valid_ok K.k.m K.valid p) (fun _ => .cons (.one (CEq.refl _)) .nil) ?_
  repeat' first
    | (with_reducible first | refine NeedI.mk (fun h => h) ?_ | refine NeedI.mk (fun h => h.2) ?_ | refine NeedI.mk (fun h => h.1) ?_ | exact Done.mk | refine Both.mk (fun _ => ?_) (fun _ => ?_) | refine Both2.mk (fun _ => ?_) ?_ | refine Need.mk (by first | omega | with_reducible exact CEq.refl _ | (dsimp only; omega)) ?_)
    | ((with_reducible fail_if_success first | refine LoopVC.mk ?_ | refine Need.mk ?_ ?_ | refine CallVC.mk ?_ | refine LoopEnd.mk ?_ | refine Out.mk ?_ | show False | refine NeedI.mk ?_ ?_); conv => whnf)
  · rename_i h
    have h1 : ¬ planOk d p data := by
      rintro ⟨a, b, c⟩; rw [decide_eq_true a, decide_eq_true b] at h; simp [c] at h
    have e1 : planL d p data = [] := if_neg h1
    have e2 : planE d p data = 1 := if_neg h1
    rw [e1, e2]
    repeat' first
      | (with_reducible first | refine NeedI.mk (fun h => h) ?_ | refine NeedI.mk (fun h => h.2) ?_ | refine NeedI.mk (fun h => h.1) ?_ | exact Done.mk | refine Both.mk (fun _ => ?_) (fun _ => ?_) | refine Both2.mk (fun _ => ?_) ?_ | refine Need.mk (by with_reducible exact Nat.le_of_eq (Nat.zero_add _)) ?_)
      | ((with_reducible fail_if_success first | refine LoopVC.mk ?_ | refine Need.mk ?_ ?_ | refine CallVC.mk ?_ | refine LoopEnd.mk ?_ | refine Out.mk ?_ | show False | refine NeedI.mk ?_ ?_); conv => whnf)
    refine Need.mk ceq_nil ?_
    repeat' first
      | (with_reducible first | refine NeedI.mk (fun h => h) ?_ | refine NeedI.mk (fun h => h.2) ?_ | refine NeedI.mk (fun h => h.1) ?_ | exact Done.mk | refine Both.mk (fun _ => ?_) (fun _ => ?_) | refine Both2.mk (fun _ => ?_) ?_ | refine Need.mk (by with_reducible exact Nat.le_of_eq (Nat.zero_add _)) ?_)
      | ((with_reducible fail_if_success first | refine LoopVC.mk ?_ | refine Need.mk ?_ ?_ | refine CallVC.mk ?_ | refine LoopEnd.mk ?_ | refine Out.mk ?_ | show False | refine NeedI.mk ?_ ?_); conv => whnf)
    refine Need.mk (CEq.refl _) ?_
    repeat' first
      | (with_reducible first | refine NeedI.mk (fun h => h) ?_ | refine NeedI.mk (fun h => h.2) ?_ | refine NeedI.mk (fun h => h.1) ?_ | exact Done.mk | refine Both.mk (fun _ => ?_) (fun _ => ?_) | refine Both2.mk (fun _ => ?_) ?_ | refine Need.mk (by with_reducible exact Nat.le_of_eq (Nat.zero_add _)) ?_)
      | ((with_reducible fail_if_success first | refine LoopVC.mk ?_ | refine Need.mk ?_ ?_ | refine CallVC.mk ?_ | refine LoopEnd.mk ?_ | refine Out.mk ?_ | show False | refine NeedI.mk ?_ ?_); conv => whnf)
  · rename_i h
    simp only [Bool.or_eq_false_iff, Bool.not_eq_false', decide_eq_true_eq] at h
    obtain ⟨⟨hu, hv⟩, hd⟩ := h
    have hd : data.length = 32 := by omega
    have e1 : planL d p data = plan p data := if_pos ⟨hu, hv, hd⟩
    have e2 : planE d p data = 0 := if_pos ⟨hu, hv, hd⟩
    rw [e1, e2]
    obtain ⟨v1, v2⟩ := id hv
    obtain ⟨n, rfl⟩ : ∃ n : Nat, p = n := ⟨p.toNat, by omega⟩
    repeat' first
      | (with_reducible first | refine NeedI.mk (fun h => h) ?_ | refine NeedI.mk (fun h => h.2) ?_ | refine NeedI.mk (fun h => h.1) ?_ | exact Done.mk | refine Both.mk (fun _ => ?_) (fun _ => ?_) | refine Both2.mk (fun _ => ?_) ?_ | refine Need.mk (by first | omega | with_reducible exact CEq.refl _ | (dsimp only; omega)) ?_)
      | ((with_reducible fail_if_success first | refine LoopVC.mk ?_ | refine Need.mk ?_ ?_ | refine CallVC.mk ?_ | refine LoopEnd.mk ?_ | refine Out.mk ?_ | show False | refine NeedI.mk ?_ ?_); conv => whnf)
    refine CallVC.mk' (fun _ => halves_ok K.k.m K.halves 1 (data.take 16) (data.drop 16) (by omega) (by omega)) (fun _ => .cons (.one (CEq.refl _)) (.cons (.one (CEq.refl _)) (.cons (.one (CEq.refl _)) .nil))) ?_
    repeat' first
      | (with_reducible first | refine NeedI.mk (fun h => h) ?_ | refine NeedI.mk (fun h => h.2) ?_ | refine NeedI.mk (fun h => h.1) ?_ | exact Done.mk | refine Both.mk (fun _ => ?_) (fun _ => ?_) | refine Both2.mk (fun _ => ?_) ?_ | refine Need.mk (by first | omega | with_reducible exact CEq.refl _ | (dsimp only; omega)) ?_)
      | ((with_reducible fail_if_success first | refine LoopVC.mk ?_ | refine Need.mk ?_ ?_ | refine CallVC.mk ?_ | refine LoopEnd.mk ?_ | refine Out.mk ?_ | show False | refine NeedI.mk ?_ ?_); conv => whnf)
    refine CallVC.mk' (fun _ => head_ok K.k.m K.head n (by omega)) (fun _ => .cons (.one (CEq.refl _)) .nil) ?_
    repeat' first
      | (with_reducible first | refine NeedI.mk (fun h => h) ?_ | refine NeedI.mk (fun h => h.2) ?_ | refine NeedI.mk (fun h => h.1) ?_ | exact Done.mk | refine Both.mk (fun _ => ?_) (fun _ => ?_) | refine Both2.mk (fun _ => ?_) ?_ | refine Need.mk (by first | omega | with_reducible exact CEq.refl _ | (dsimp only; omega)) ?_)
      | ((with_reducible fail_if_success first | refine LoopVC.mk ?_ | refine Need.mk ?_ ?_ | refine CallVC.mk ?_ | refine LoopEnd.mk ?_ | refine Out.mk ?_ | show False | refine NeedI.mk ?_ ?_); conv => whnf)
    refine CallVC.mk' (fun _ => top_ok K.k.m K.top (headL n)) (fun _ => .cons (.one (CEq.refl _)) .nil) ?_
    repeat' first
      | (with_reducible first | refine NeedI.mk (fun h => h) ?_ | refine NeedI.mk (fun h => h.2) ?_ | refine NeedI.mk (fun h => h.1) ?_ | exact Done.mk | refine Both.mk (fun _ => ?_) (fun _ => ?_) | refine Both2.mk (fun _ => ?_) ?_ | refine Need.mk (by first | omega | with_reducible exact CEq.refl _ | (dsimp only; omega)) ?_)
      | ((with_reducible fail_if_success first | refine LoopVC.mk ?_ | refine Need.mk ?_ ?_ | refine CallVC.mk ?_ | refine LoopEnd.mk ?_ | refine Out.mk ?_ | show False | refine NeedI.mk ?_ ?_); conv => whnf)
    refine CallVC.mk' (fun _ => home_ok K.k.m K.home n hv) (fun _ => .cons (.one (CEq.refl _)) .nil) ?_
    repeat' first
      | (with_reducible first | refine NeedI.mk (fun h => h) ?_ | refine NeedI.mk (fun h => h.2) ?_ | refine NeedI.mk (fun h => h.1) ?_ | exact Done.mk | refine Both.mk (fun _ => ?_) (fun _ => ?_) | refine Both2.mk (fun _ => ?_) ?_ | refine Need.mk (by first | omega | with_reducible exact CEq.refl _ | (dsimp only; omega)) ?_)
      | ((with_reducible fail_if_success first | refine LoopVC.mk ?_ | refine Need.mk ?_ ?_ | refine CallVC.mk ?_ | refine LoopEnd.mk ?_ | refine Out.mk ?_ | show False | refine NeedI.mk ?_ ?_); conv => whnf)
    refine CallVC.mk' (fun _ => halves_ok K.k.m K.halves (home n) (data.take 16) (data.drop 16) (by unfold home; omega) (by unfold home; omega)) (fun _ => .cons (.one (CEq.refl _)) (.cons (.one (CEq.refl _)) (.cons (.one (CEq.refl _)) .nil))) ?_
    repeat' first
      | (with_reducible first | refine NeedI.mk (fun h => h) ?_ | refine NeedI.mk (fun h => h.2) ?_ | refine NeedI.mk (fun h => h.1) ?_ | exact Done.mk | refine Both.mk (fun _ => ?_) (fun _ => ?_) | refine Both2.mk (fun _ => ?_) ?_ | refine Need.mk (by first | omega | with_reducible exact CEq.refl _ | (dsimp only; omega)) ?_)
      | ((with_reducible fail_if_success first | refine LoopVC.mk ?_ | refine Need.mk ?_ ?_ | refine CallVC.mk ?_ | refine LoopEnd.mk ?_ | refine Out.mk ?_ | show False | refine NeedI.mk ?_ ?_); conv => whnf)
    refine CallVC.mk' (fun _ => top_ok K.k.m K.top zs) (fun _ => .cons (.one (CEq.refl _)) .nil) ?_
    repeat' first
      | (with_reducible first | refine NeedI.mk (fun h => h) ?_ | refine NeedI.mk (fun h => h.2) ?_ | refine NeedI.mk (fun h => h.1) ?_ | exact Done.mk | refine Both.mk (fun _ => ?_) (fun _ => ?_) | refine Both2.mk (fun _ => ?_) ?_ | refine Need.mk (by first | omega | with_reducible exact CEq.refl _ | (dsimp only; omega)) ?_)
      | ((with_reducible fail_if_success first | refine LoopVC.mk ?_ | refine Need.mk ?_ ?_ | refine CallVC.mk ?_ | refine LoopEnd.mk ?_ | refine Out.mk ?_ | show False | refine NeedI.mk ?_ ?_); conv => whnf)
    refine Need.mk ((((IsL.refl (l := halves 1 (data.take 16) (data.drop 16))).app rfl (IsL.refl (l := topL (headL n))).off |>.app rfl (IsL.refl (l := halves (home n) (data.take 16) (data.drop 16))).off).app rfl (IsL.refl (l := topL zs)).off).off.ceq rfl) ?_
    repeat' first
      | (with_reducible first | refine NeedI.mk (fun h => h) ?_ | refine NeedI.mk (fun h => h.2) ?_ | refine NeedI.mk (fun h => h.1) ?_ | exact Done.mk | refine Both.mk (fun _ => ?_) (fun _ => ?_) | refine Both2.mk (fun _ => ?_) ?_ | refine Need.mk (by with_reducible exact CEq.refl _) ?_)
      | ((with_reducible fail_if_success first | refine LoopVC.mk ?_ | refine Need.mk ?_ ?_ | refine CallVC.mk ?_ | refine LoopEnd.mk ?_ | refine Out.mk ?_ | show False | refine NeedI.mk ?_ ?_); conv => whnf)
set_option maxHeartbeats 8000000 in
set_option maxRecDepth 100000 in
theorem get_ok (K : KJ P F) (d : Dsk) (p : Int) (S : Small d) : FnOk P (F 99) [.many 2 (dskE d), .one (.int .i64 p)] [.one (.im (.str (get d p).1)), .one (.im (.int .i64 (get d p).2))] := by
  refine fnOk K.k.m K.get ?_
  repeat' first
    | (with_reducible first | refine NeedI.mk (fun h => h) ?_ | refine NeedI.mk (fun h => h.2) ?_ | refine NeedI.mk (fun h => h.1) ?_ | exact Done.mk | refine Both.mk (fun _ => ?_) (fun _ => ?_) | refine Both2.mk (fun _ => ?_) ?_ | refine Need.mk (by first | omega | with_reducible exact CEq.refl _) ?_)
    | ((with_reducible fail_if_success first | refine LoopVC.mk ?_ | refine Need.mk ?_ ?_ | refine CallVC.mk ?_ | refine LoopEnd.mk ?_ | refine Out.mk ?_ | show False | refine NeedI.mk ?_ ?_); conv => whnf)
  refine CallVC.mk' (fun _ => usable_ok K.k K.usable d S) (fun _ => .cons ((.many fun j hj => by (rcases (show j = 0 ∨ j = 1 by omega) with rfl | rfl <;> exact CEq.refl _))) .nil) ?_
  repeat' first
    | (with_reducible first | refine NeedI.mk (fun h => h) ?_ | refine NeedI.mk (fun h => h.2) ?_ | refine NeedI.mk (fun h => h.1) ?_ | exact Done.mk | refine Both.mk (fun _ => ?_) (fun _ => ?_) | refine Both2.mk (fun _ => ?_) ?_ | refine Need.mk (by first | omega | with_reducible exact CEq.refl _) ?_)
    | ((with_reducible fail_if_success first | refine LoopVC.mk ?_ | refine Need.mk ?_ ?_ | refine CallVC.mk ?_ | refine LoopEnd.mk ?_ | refine Out.mk ?_ | show False | refine NeedI.mk ?_ ?_); conv => whnf)
  refine CallVC.mk' (fun _ => valid_ok K.k.m K.valid p) (fun _ => .cons (.one (CEq.refl _)) .nil) ?_
  repeat' first
    | (with_reducible first | refine NeedI.mk (fun h => h) ?_ | refine NeedI.mk (fun h => h.2) ?_ | refine NeedI.mk (fun h => h.1) ?_ | exact Done.mk | refine Both.mk (fun _ => ?_) (fun _ => ?_) | refine Both2.mk (fun _ => ?_) ?_ | refine Need.mk (by first | omega | with_reducible exact CEq.refl _) ?_)
    | ((with_reducible fail_if_success first | refine LoopVC.mk ?_ | refine Need.mk ?_ ?_ | refine CallVC.mk ?_ | refine LoopEnd.mk ?_ | refine Out.mk ?_ | show False | refine NeedI.mk ?_ ?_); conv => whnf)
  · rename_i h
    have h1 : ¬ getOk d p := by
      rintro ⟨a, b⟩; rw [decide_eq_true a, decide_eq_true b] at h; simp at h
    rw [show get d p = ([], 1) from if_neg h1]
    repeat' first
      | (with_reducible first | refine NeedI.mk (fun h => h) ?_ | refine NeedI.mk (fun h => h.2) ?_ | refine NeedI.mk (fun h => h.1) ?_ | exact Done.mk | refine Both.mk (fun _ => ?_) (fun _ => ?_) | refine Both2.mk (fun _ => ?_) ?_ | refine Need.mk (by with_reducible exact CEq.refl _) ?_)
      | ((with_reducible fail_if_success first | refine LoopVC.mk ?_ | refine Need.mk ?_ ?_ | refine CallVC.mk ?_ | refine LoopEnd.mk ?_ | refine Out.mk ?_ | show False | refine NeedI.mk ?_ ?_); conv => whnf)
  · rename_i h
    simp only [Bool.or_eq_false_iff, Bool.not_eq_false', decide_eq_true_eq] at h
    obtain ⟨hu, hv⟩ := h
    obtain ⟨v1, v2⟩ := id hv
    obtain ⟨n, rfl⟩ : ∃ n : Nat, p = n := ⟨p.toNat, by omega⟩
    rw [show get d n = (getS d n, 0) from if_pos ⟨hu, hv⟩]
    have hs := hu.2
    have e1 : d.rd (home n) = (d.read (2 * n + 1), 0) := by
      rw [show home n = ((2 * n + 1 : Nat) : Int) by unfold home; push_cast; rfl]
      exact rd_in hu.1 (by omega)
    have e2 : d.rd (home n + 1) = (d.read (2 * n + 2), 0) := by
      rw [show home n + 1 = ((2 * n + 2 : Nat) : Int) by unfold home; push_cast; omega]
      exact rd_in hu.1 (by omega)
    have l1 := read_len (i := 2 * n + 1) hu.1 (by omega)
    have l2 := read_len (i := 2 * n + 2) hu.1 (by omega)
    repeat' first
      | (with_reducible first | refine NeedI.mk (fun h => h) ?_ | refine NeedI.mk (fun h => h.2) ?_ | refine NeedI.mk (fun h => h.1) ?_ | exact Done.mk | refine Both.mk (fun _ => ?_) (fun _ => ?_) | refine Both2.mk (fun _ => ?_) ?_ | refine Need.mk (by first | omega | with_reducible exact CEq.refl _) ?_)
      | ((with_reducible fail_if_success first | refine LoopVC.mk ?_ | refine Need.mk ?_ ?_ | refine CallVC.mk ?_ | refine LoopEnd.mk ?_ | refine Out.mk ?_ | show False | refine NeedI.mk ?_ ?_); conv => whnf)
    refine CallVC.mk' (fun _ => home_ok K.k.m K.home n hv) (fun _ => .cons (.one (CEq.refl _)) .nil) ?_
    repeat' first
      | (with_reducible first | refine NeedI.mk (fun h => h) ?_ | refine NeedI.mk (fun h => h.2) ?_ | refine NeedI.mk (fun h => h.1) ?_ | exact Done.mk | refine Both.mk (fun _ => ?_) (fun _ => ?_) | refine Both2.mk (fun _ => ?_) ?_ | refine Need.mk (by first | omega | with_reducible exact CEq.refl _) ?_)
      | ((with_reducible fail_if_success first | refine LoopVC.mk ?_ | refine Need.mk ?_ ?_ | refine CallVC.mk ?_ | refine LoopEnd.mk ?_ | refine Out.mk ?_ | show False | refine NeedI.mk ?_ ?_); conv => whnf)
    refine CallVC.mk' (fun _ => K.rd d (home n) S) (fun _ => .cons ((.many fun j hj => by (rcases (show j = 0 ∨ j = 1 by omega) with rfl | rfl <;> exact CEq.refl _))) (.cons (.one (CEq.refl _)) .nil)) ?_
    rw [e1]
    repeat' first
      | (with_reducible first | refine NeedI.mk (fun h => h) ?_ | refine NeedI.mk (fun h => h.2) ?_ | refine NeedI.mk (fun h => h.1) ?_ | exact Done.mk | refine Both.mk (fun _ => ?_) (fun _ => ?_) | refine Both2.mk (fun _ => ?_) ?_ | refine Need.mk (by first | omega | with_reducible exact CEq.refl _) ?_)
      | ((with_reducible fail_if_success first | refine LoopVC.mk ?_ | refine Need.mk ?_ ?_ | refine CallVC.mk ?_ | refine LoopEnd.mk ?_ | refine Out.mk ?_ | show False | refine NeedI.mk ?_ ?_); conv => whnf)
    refine CallVC.mk' (fun _ => home_ok K.k.m K.home n hv) (fun _ => .cons (.one (CEq.refl _)) .nil) ?_
    repeat' first
      | (with_reducible first | refine NeedI.mk (fun h => h) ?_ | refine NeedI.mk (fun h => h.2) ?_ | refine NeedI.mk (fun h => h.1) ?_ | exact Done.mk | refine Both.mk (fun _ => ?_) (fun _ => ?_) | refine Both2.mk (fun _ => ?_) ?_ | refine Need.mk (by first | omega | with_reducible exact CEq.refl _ | (simp only [rng, home]; omega)) ?_)
      | ((with_reducible fail_if_success first | refine LoopVC.mk ?_ | refine Need.mk ?_ ?_ | refine CallVC.mk ?_ | refine LoopEnd.mk ?_ | refine Out.mk ?_ | show False | refine NeedI.mk ?_ ?_); conv => whnf)
    refine CallVC.mk' (fun _ => K.rd d (home n + 1) S) (fun _ => .cons ((.many fun j hj => by (rcases (show j = 0 ∨ j = 1 by omega) with rfl | rfl <;> exact CEq.refl _))) (.cons (.one (CEq.refl _)) .nil)) ?_
    rw [e2]
    repeat' first
      | (with_reducible first | refine NeedI.mk (fun h => h) ?_ | refine NeedI.mk (fun h => h.2) ?_ | refine NeedI.mk (fun h => h.1) ?_ | exact Done.mk | refine Both.mk (fun _ => ?_) (fun _ => ?_) | refine Both2.mk (fun _ => ?_) ?_ | refine Need.mk (by first | omega | with_reducible exact CEq.refl _ | (dsimp only; omega)) ?_)
      | ((with_reducible fail_if_success first | refine LoopVC.mk ?_ | refine Need.mk ?_ ?_ | refine CallVC.mk ?_ | refine LoopEnd.mk ?_ | refine Out.mk ?_ | show False | refine NeedI.mk ?_ ?_); conv => whnf)
    refine Need.mk (CEq.refl _) ?_
    repeat' first
      | (with_reducible first | refine NeedI.mk (fun h => h) ?_ | refine NeedI.mk (fun h => h.2) ?_ | refine NeedI.mk (fun h => h.1) ?_ | exact Done.mk | refine Both.mk (fun _ => ?_) (fun _ => ?_) | refine Both2.mk (fun _ => ?_) ?_ | refine Need.mk (by with_reducible exact CEq.refl _) ?_)
      | ((with_reducible fail_if_success first | refine LoopVC.mk ?_ | refine Need.mk ?_ ?_ | refine CallVC.mk ?_ | refine LoopEnd.mk ?_ | refine Out.mk ?_ | show False | refine NeedI.mk ?_ ?_); conv => whnf)
set_option maxHeartbeats 8000000 in
set_option maxRecDepth 100000 in
theorem repair_ok (K : KJ P F) (d : Dsk) (S : Small d) : FnOk P (F 107) [.many 2 (dskE d)] [.one (.im (slL 3 opE (repair d)))] := by
  refine fnOk K.k.m K.repair ?_
  repeat' first
    | (with_reducible first | refine NeedI.mk (fun h => h) ?_ | refine NeedI.mk (fun h => h.2) ?_ | refine NeedI.mk (fun h => h.1) ?_ | exact Done.mk | refine Both.mk (fun _ => ?_) (fun _ => ?_) | refine Both2.mk (fun _ => ?_) ?_ | refine Need.mk (by first | omega | with_reducible exact CEq.refl _) ?_)
    | ((with_reducible fail_if_success first | refine LoopVC.mk ?_ | refine Need.mk ?_ ?_ | refine CallVC.mk ?_ | refine LoopEnd.mk ?_ | refine Out.mk ?_ | show False | refine NeedI.mk ?_ ?_); conv => whnf)
  refine CallVC.mk' (fun _ => usable_ok K.k K.usable d S) (fun _ => .cons ((.many fun j hj => by (rcases (show j = 0 ∨ j = 1 by omega) with rfl | rfl <;> exact CEq.refl _))) .nil) ?_
  repeat' first
    | (with_reducible first | refine NeedI.mk (fun h => h) ?_ | refine NeedI.mk (fun h => h.2) ?_ | refine NeedI.mk (fun h => h.1) ?_ | exact Done.mk | refine Both.mk (fun _ => ?_) (fun _ => ?_) | refine Both2.mk (fun _ => ?_) ?_ | refine Need.mk (by first | omega | with_reducible exact CEq.refl _) ?_)
    | ((with_reducible fail_if_success first | refine LoopVC.mk ?_ | refine Need.mk ?_ ?_ | refine CallVC.mk ?_ | refine LoopEnd.mk ?_ | refine Out.mk ?_ | show False | refine NeedI.mk ?_ ?_); conv => whnf)
  · rename_i h
    simp only [Bool.not_eq_true', decide_eq_false_iff_not] at h
    rw [show repair d = [] from if_neg h]
    repeat' first
      | (with_reducible first | refine NeedI.mk (fun h => h) ?_ | refine NeedI.mk (fun h => h.2) ?_ | refine NeedI.mk (fun h => h.1) ?_ | exact Done.mk | refine Both.mk (fun _ => ?_) (fun _ => ?_) | refine Both2.mk (fun _ => ?_) ?_ | refine Need.mk (by with_reducible exact Nat.le_of_eq (Nat.zero_add _)) ?_)
      | ((with_reducible fail_if_success first | refine LoopVC.mk ?_ | refine Need.mk ?_ ?_ | refine CallVC.mk ?_ | refine LoopEnd.mk ?_ | refine Out.mk ?_ | show False | refine NeedI.mk ?_ ?_); conv => whnf)
    refine Need.mk ceq_nil ?_
    repeat' first
      | (with_reducible first | refine NeedI.mk (fun h => h) ?_ | refine NeedI.mk (fun h => h.2) ?_ | refine NeedI.mk (fun h => h.1) ?_ | exact Done.mk | refine Both.mk (fun _ => ?_) (fun _ => ?_) | refine Both2.mk (fun _ => ?_) ?_ | refine Need.mk (by with_reducible exact Nat.le_of_eq (Nat.zero_add _)) ?_)
      | ((with_reducible fail_if_success first | refine LoopVC.mk ?_ | refine Need.mk ?_ ?_ | refine CallVC.mk ?_ | refine LoopEnd.mk ?_ | refine Out.mk ?_ | show False | refine NeedI.mk ?_ ?_); conv => whnf)
  · rename_i h
    simp only [Bool.not_eq_false', decide_eq_true_eq] at h
    have hs := h.2
    have e0 : d.rd 0 = (d.read 0, 0) := rd_in (i := 0) h.1 (by omega)
    have e1 : d.rd 1 = (d.read 1, 0) := rd_in (i := 1) h.1 (by omega)
    have e2 : d.rd 2 = (d.read 2, 0) := rd_in (i := 2) h.1 (by omega)
    refine CallVC.mk' (fun _ => K.rd d 0 S) (fun _ => .cons ((.many fun j hj => by (rcases (show j = 0 ∨ j = 1 by omega) with rfl | rfl <;> exact CEq.refl _))) (.cons (.one (CEq.refl _)) .nil)) ?_
    rw [e0]
    repeat' first
      | (with_reducible first | refine NeedI.mk (fun h => h) ?_ | refine NeedI.mk (fun h => h.2) ?_ | refine NeedI.mk (fun h => h.1) ?_ | exact Done.mk | refine Both.mk (fun _ => ?_) (fun _ => ?_) | refine Both2.mk (fun _ => ?_) ?_ | refine Need.mk (by first | omega | with_reducible exact CEq.refl _) ?_)
      | ((with_reducible fail_if_success first | refine LoopVC.mk ?_ | refine Need.mk ?_ ?_ | refine CallVC.mk ?_ | refine LoopEnd.mk ?_ | refine Out.mk ?_ | show False | refine NeedI.mk ?_ ?_); conv => whnf)
    · rename_i hz
      have hz : d.read 0 = zs := of_decide_eq_true hz
      rw [show repair d = [] by unfold repair; rw [if_pos h, if_pos hz]]
      repeat' first
        | (with_reducible first | refine NeedI.mk (fun h => h) ?_ | refine NeedI.mk (fun h => h.2) ?_ | refine NeedI.mk (fun h => h.1) ?_ | exact Done.mk | refine Both.mk (fun _ => ?_) (fun _ => ?_) | refine Both2.mk (fun _ => ?_) ?_ | refine Need.mk (by with_reducible exact Nat.le_of_eq (Nat.zero_add _)) ?_)
        | ((with_reducible fail_if_success first | refine LoopVC.mk ?_ | refine Need.mk ?_ ?_ | refine CallVC.mk ?_ | refine LoopEnd.mk ?_ | refine Out.mk ?_ | show False | refine NeedI.mk ?_ ?_); conv => whnf)
      refine Need.mk ceq_nil ?_
      repeat' first
        | (with_reducible first | refine NeedI.mk (fun h => h) ?_ | refine NeedI.mk (fun h => h.2) ?_ | refine NeedI.mk (fun h => h.1) ?_ | exact Done.mk | refine Both.mk (fun _ => ?_) (fun _ => ?_) | refine Both2.mk (fun _ => ?_) ?_ | refine Need.mk (by with_reducible exact Nat.le_of_eq (Nat.zero_add _)) ?_)
        | ((with_reducible fail_if_success first | refine LoopVC.mk ?_ | refine Need.mk ?_ ?_ | refine CallVC.mk ?_ | refine LoopEnd.mk ?_ | refine Out.mk ?_ | show False | refine NeedI.mk ?_ ?_); conv => whnf)
    · rename_i hz
      have hz : d.read 0 ≠ zs := of_decide_eq_false hz
      refine CallVC.mk' (fun _ => headed_ok K (d.read 0)) (fun _ => .cons (.one (CEq.refl _)) .nil) ?_
      repeat' first
        | (with_reducible first | refine NeedI.mk (fun h => h) ?_ | refine NeedI.mk (fun h => h.2) ?_ | refine NeedI.mk (fun h => h.1) ?_ | exact Done.mk | refine Both.mk (fun _ => ?_) (fun _ => ?_) | refine Both2.mk (fun _ => ?_) ?_ | refine Need.mk (by first | omega | with_reducible exact CEq.refl _) ?_)
        | ((with_reducible fail_if_success first | refine LoopVC.mk ?_ | refine Need.mk ?_ ?_ | refine CallVC.mk ?_ | refine LoopEnd.mk ?_ | refine Out.mk ?_ | show False | refine NeedI.mk ?_ ?_); conv => whnf)
      · rename_i hh
        have hh : hdN (d.read 0) ≠ 0 := of_decide_eq_true hh
        have hl := hdN_le (d.read 0)
        rw [show repair d = halves (home (hdN (d.read 0))) (d.read 1) (d.read 2) ++ topL zs by unfold repair; rw [if_pos h, if_neg hz, if_pos hh]]
        generalize hdN (d.read 0) = n at *
        refine CallVC.mk' (fun _ => K.rd d 1 S) (fun _ => .cons ((.many fun j hj => by (rcases (show j = 0 ∨ j = 1 by omega) with rfl | rfl <;> exact CEq.refl _))) (.cons (.one (CEq.refl _)) .nil)) ?_
        rw [e1]
        repeat' first
          | (with_reducible first | refine NeedI.mk (fun h => h) ?_ | refine NeedI.mk (fun h => h.2) ?_ | refine NeedI.mk (fun h => h.1) ?_ | exact Done.mk | refine Both.mk (fun _ => ?_) (fun _ => ?_) | refine Both2.mk (fun _ => ?_) ?_ | refine Need.mk (by first | omega | with_reducible exact CEq.refl _) ?_)
          | ((with_reducible fail_if_success first | refine LoopVC.mk ?_ | refine Need.mk ?_ ?_ | refine CallVC.mk ?_ | refine LoopEnd.mk ?_ | refine Out.mk ?_ | show False | refine NeedI.mk ?_ ?_); conv => whnf)
        refine CallVC.mk' (fun _ => K.rd d 2 S) (fun _ => .cons ((.many fun j hj => by (rcases (show j = 0 ∨ j = 1 by omega) with rfl | rfl <;> exact CEq.refl _))) (.cons (.one (CEq.refl _)) .nil)) ?_
        rw [e2]
        repeat' first
          | (with_reducible first | refine NeedI.mk (fun h => h) ?_ | refine NeedI.mk (fun h => h.2) ?_ | refine NeedI.mk (fun h => h.1) ?_ | exact Done.mk | refine Both.mk (fun _ => ?_) (fun _ => ?_) | refine Both2.mk (fun _ => ?_) ?_ | refine Need.mk (by first | omega | with_reducible exact CEq.refl _) ?_)
          | ((with_reducible fail_if_success first | refine LoopVC.mk ?_ | refine Need.mk ?_ ?_ | refine CallVC.mk ?_ | refine LoopEnd.mk ?_ | refine Out.mk ?_ | show False | refine NeedI.mk ?_ ?_); conv => whnf)
        refine CallVC.mk' (fun _ => home_ok K.k.m K.home n ⟨by omega, by omega⟩) (fun _ => .cons (.one (CEq.refl _)) .nil) ?_
        repeat' first
          | (with_reducible first | refine NeedI.mk (fun h => h) ?_ | refine NeedI.mk (fun h => h.2) ?_ | refine NeedI.mk (fun h => h.1) ?_ | exact Done.mk | refine Both.mk (fun _ => ?_) (fun _ => ?_) | refine Both2.mk (fun _ => ?_) ?_ | refine Need.mk (by first | omega | with_reducible exact CEq.refl _) ?_)
          | ((with_reducible fail_if_success first | refine LoopVC.mk ?_ | refine Need.mk ?_ ?_ | refine CallVC.mk ?_ | refine LoopEnd.mk ?_ | refine Out.mk ?_ | show False | refine NeedI.mk ?_ ?_); conv => whnf)
        refine CallVC.mk' (fun _ => halves_ok K.k.m K.halves (home n) (d.read 1) (d.read 2) (by unfold home; omega) (by unfold home; omega)) (fun _ => .cons (.one (CEq.refl _)) (.cons (.one (CEq.refl _)) (.cons (.one (CEq.refl _)) .nil))) ?_
        repeat' first
          | (with_reducible first | refine NeedI.mk (fun h => h) ?_ | refine NeedI.mk (fun h => h.2) ?_ | refine NeedI.mk (fun h => h.1) ?_ | exact Done.mk | refine Both.mk (fun _ => ?_) (fun _ => ?_) | refine Both2.mk (fun _ => ?_) ?_ | refine Need.mk (by first | omega | with_reducible exact CEq.refl _) ?_)
          | ((with_reducible fail_if_success first | refine LoopVC.mk ?_ | refine Need.mk ?_ ?_ | refine CallVC.mk ?_ | refine LoopEnd.mk ?_ | refine Out.mk ?_ | show False | refine NeedI.mk ?_ ?_); conv => whnf)
        refine CallVC.mk' (fun _ => top_ok K.k.m K.top zs) (fun _ => .cons (.one (CEq.refl _)) .nil) ?_
        repeat' first
          | (with_reducible first | refine NeedI.mk (fun h => h) ?_ | refine NeedI.mk (fun h => h.2) ?_ | refine NeedI.mk (fun h => h.1) ?_ | exact Done.mk | refine Both.mk (fun _ => ?_) (fun _ => ?_) | refine Both2.mk (fun _ => ?_) ?_ | refine Need.mk (by first | omega | with_reducible exact CEq.refl _ | (dsimp only; omega)) ?_)
          | ((with_reducible fail_if_success first | refine LoopVC.mk ?_ | refine Need.mk ?_ ?_ | refine CallVC.mk ?_ | refine LoopEnd.mk ?_ | refine Out.mk ?_ | show False | refine NeedI.mk ?_ ?_); conv => whnf)
        refine Need.mk (((IsL.refl (l := halves (home n) (d.read 1) (d.read 2))).app rfl (IsL.refl (l := topL zs)).off).off.ceq rfl) ?_
        repeat' first
          | (with_reducible first | refine NeedI.mk (fun h => h) ?_ | refine NeedI.mk (fun h => h.2) ?_ | refine NeedI.mk (fun h => h.1) ?_ | exact Done.mk | refine Both.mk (fun _ => ?_) (fun _ => ?_) | refine Both2.mk (fun _ => ?_) ?_ | refine Need.mk (by with_reducible exact CEq.refl _) ?_)
          | ((with_reducible fail_if_success first | refine LoopVC.mk ?_ | refine Need.mk ?_ ?_ | refine CallVC.mk ?_ | refine LoopEnd.mk ?_ | refine Out.mk ?_ | show False | refine NeedI.mk ?_ ?_); conv => whnf)
      · rename_i hh
        have hh : ¬ hdN (d.read 0) ≠ 0 := of_decide_eq_false hh
        rw [show repair d = topL zs by unfold repair; rw [if_pos h, if_neg hz, if_neg hh]; rfl]
        refine CallVC.mk' (fun _ => top_ok K.k.m K.top zs) (fun _ => .cons (.one (CEq.refl _)) .nil) ?_
        repeat' first
          | (with_reducible first | refine NeedI.mk (fun h => h) ?_ | refine NeedI.mk (fun h => h.2) ?_ | refine NeedI.mk (fun h => h.1) ?_ | exact Done.mk | refine Both.mk (fun _ => ?_) (fun _ => ?_) | refine Both2.mk (fun _ => ?_) ?_ | refine Need.mk (by first | omega | with_reducible exact CEq.refl _ | (dsimp only; omega)) ?_)
          | ((with_reducible fail_if_success first | refine LoopVC.mk ?_ | refine Need.mk ?_ ?_ | refine CallVC.mk ?_ | refine LoopEnd.mk ?_ | refine Out.mk ?_ | show False | refine NeedI.mk ?_ ?_); conv => whnf)
        refine Need.mk ((IsL.refl (l := topL zs)).off.off.ceq rfl) ?_
        repeat' first
          | (with_reducible first | refine NeedI.mk (fun h => h) ?_ | refine NeedI.mk (fun h => h.2) ?_ | refine NeedI.mk (fun h => h.1) ?_ | exact Done.mk | refine Both.mk (fun _ => ?_) (fun _ => ?_) | refine Both2.mk (fun _ => ?_) ?_ | refine Need.mk (by with_reducible exact CEq.refl _) ?_)
          | ((with_reducible fail_if_success first | refine LoopVC.mk ?_ | refine Need.mk ?_ ?_ | refine CallVC.mk ?_ | refine LoopEnd.mk ?_ | refine Out.mk ?_ | show False | refine NeedI.mk ?_ ?_); conv => whnf)
theorem run_all {d : Dsk} {l : List Op} : run d l l.length = runL d l := by unfold run; rw [Int.toNat_natCast, List.take_length]
theorem planL_len (d : Dsk) (p : Int) (data : List UInt8) : (planL d p data).length ≤ 10 := by
  unfold planL; split
  · exact Nat.le_refl 10
  · exact Nat.zero_le _
theorem repair_len (d : Dsk) : (repair d).length ≤ 5 := by
  unfold repair; split
  · split
    · exact Nat.zero_le _
    · split
      · exact Nat.le_refl 5
      · show 2 ≤ 5; decide
  · exact Nat.zero_le _
theorem planL_data {d : Dsk} {p : Int} {data : List UInt8} : ∀ o ∈ planL d p data, o.w.data.length ≤ 1000000 := by
  unfold planL; split
  · rename_i h
    have hd := h.2.2
    have hz : zs.length = 16 := rfl
    have hh := headL_len p.toNat
    have ht : (data.take 16).length = 16 := by rw [List.length_take]; omega
    have hr : (data.drop 16).length = 16 := by rw [List.length_drop]; omega
    intro o ho
    simp only [plan, halves, topL, List.cons_append, List.nil_append, List.mem_cons, List.not_mem_nil, or_false] at ho
    rcases ho with rfl | rfl | rfl | rfl | rfl | rfl | rfl | rfl | rfl | rfl <;> (dsimp only [List.length_nil]; omega)
  · intro o ho; cases ho
theorem repair_data {d : Dsk} : ∀ o ∈ repair d, o.w.data.length ≤ 1000000 := by
  unfold repair; split
  · rename_i h
    have hs := h.2
    split
    · intro o ho; cases ho
    · have hz : zs.length = 16 := rfl
      have l1 := read_len (i := 1) h.1 (by omega)
      have l2 := read_len (i := 2) h.1 (by omega)
      intro o ho
      rcases List.mem_append.1 ho with ho | ho
      · split at ho
        · simp only [halves, List.mem_cons, List.not_mem_nil, or_false] at ho
          rcases ho with rfl | rfl | rfl <;> (dsimp only [List.length_nil]; omega)
        · cases ho
      · simp only [topL, List.mem_cons, List.not_mem_nil, or_false] at ho
        rcases ho with rfl | rfl <;> (dsimp only [List.length_nil]; omega)
  · intro o ho; cases ho
set_option maxHeartbeats 8000000 in
set_option maxRecDepth 100000 in
theorem commit_ok (K : KJ P F) (d : Dsk) (p : Int) (data : List UInt8) (S : Small d) (hl : data.length ≤ 1000000) : FnOk P (F 98) [.many 2 (dskE d), .one (.int .i64 p), .one (.str data)] [.many 2 (fun j => .im (dskE (commitD d p data) j)), .one (.im (.int .i64 (planE d p data)))] := by
  refine fnOk K.k.m K.commit ?_
  repeat' first
    | (with_reducible first | refine NeedI.mk (fun h => h) ?_ | refine NeedI.mk (fun h => h.2) ?_ | refine NeedI.mk (fun h => h.1) ?_ | exact Done.mk | refine Both.mk (fun _ => ?_) (fun _ => ?_) | refine Both2.mk (fun _ => ?_) ?_ | refine Need.mk (by first | omega | with_reducible exact CEq.refl _) ?_)
    | ((with_reducible fail_if_success first | refine LoopVC.mk ?_ | refine Need.mk ?_ ?_ | refine CallVC.mk ?_ | refine LoopEnd.mk ?_ | refine Out.mk ?_ | show False | refine NeedI.mk ?_ ?_); conv => whnf)
  refine CallVC.mk' (fun _ => plan_ok K d p data S hl) (fun _ => .cons ((.many fun j hj => by (rcases (show j = 0 ∨ j = 1 by omega) with rfl | rfl <;> exact CEq.refl _))) (.cons (.one (CEq.refl _)) (.cons (.one (CEq.refl _)) .nil))) ?_
  repeat' first
    | (with_reducible first | refine NeedI.mk (fun h => h) ?_ | refine NeedI.mk (fun h => h.2) ?_ | refine NeedI.mk (fun h => h.1) ?_ | exact Done.mk | refine Both.mk (fun _ => ?_) (fun _ => ?_) | refine Both2.mk (fun _ => ?_) ?_ | refine Need.mk (by first | omega | with_reducible exact CEq.refl _) ?_)
    | ((with_reducible fail_if_success first | refine LoopVC.mk ?_ | refine Need.mk ?_ ?_ | refine CallVC.mk ?_ | refine LoopEnd.mk ?_ | refine Out.mk ?_ | show False | refine NeedI.mk ?_ ?_); conv => whnf)
  · rename_i h
    have h : planE d p data ≠ 0 := by simpa using h
    have h1 : ¬ planOk d p data := fun x => h (if_pos x)
    rw [show commitD d p data = d from if_neg h1]
    repeat' first
      | (with_reducible first | refine NeedI.mk (fun h => h) ?_ | refine NeedI.mk (fun h => h.2) ?_ | refine NeedI.mk (fun h => h.1) ?_ | exact Done.mk | refine Both.mk (fun _ => ?_) (fun _ => ?_) | refine Both2.mk (fun _ => ?_) ?_ | refine Need.mk (by with_reducible exact Nat.le_of_eq (Nat.zero_add _)) ?_)
      | ((with_reducible refine Need.mk ?_ ?_); exact CEq.refl _)
      | ((with_reducible fail_if_success first | refine LoopVC.mk ?_ | refine Need.mk ?_ ?_ | refine CallVC.mk ?_ | refine LoopEnd.mk ?_ | refine Out.mk ?_ | show False | refine NeedI.mk ?_ ?_); conv => whnf)
  · rename_i h
    have h : planE d p data = 0 := by simpa using h
    have h1 : planOk d p data := by
      by_cases x : planOk d p data
      · exact x
      · rw [show planE d p data = 1 from if_neg x] at h; simp at h
    have h2 := planL_len d p data
    refine CallVC.mk' (fun _ => run_ok K.k K.run d (planL d p data) (planL d p data).length S (by omega) planL_data) (fun _ => .cons ((.many fun j hj => by (rcases (show j = 0 ∨ j = 1 by omega) with rfl | rfl <;> exact CEq.refl _))) (.cons (.one (CEq.refl _)) (.cons (.one (CEq.refl _)) .nil))) ?_
    rw [run_all, show commitD d p data = runL d (plan p data) from if_pos h1, show planL d p data = plan p data from if_pos h1, show planE d p data = 0 from h]
    repeat' first
      | (with_reducible first | refine NeedI.mk (fun h => h) ?_ | refine NeedI.mk (fun h => h.2) ?_ | refine NeedI.mk (fun h => h.1) ?_ | exact Done.mk | refine Both.mk (fun _ => ?_) (fun _ => ?_) | refine Both2.mk (fun _ => ?_) ?_ | refine Need.mk (by with_reducible exact Nat.le_of_eq (Nat.zero_add _)) ?_)
      | ((with_reducible refine Need.mk ?_ ?_); exact CEq.refl _)
      | ((with_reducible fail_if_success first | refine LoopVC.mk ?_ | refine Need.mk ?_ ?_ | refine CallVC.mk ?_ | refine LoopEnd.mk ?_ | refine Out.mk ?_ | show False | refine NeedI.mk ?_ ?_); conv => whnf)
set_option maxHeartbeats 8000000 in
set_option maxRecDepth 100000 in
theorem recover_ok (K : KJ P F) (d : Dsk) (S : Small d) : FnOk P (F 110) [.many 2 (dskE d)] [.many 2 (fun j => .im (dskE (recover d) j))] := by
  refine fnOk K.k.m K.recover ?_
  repeat' first
    | (with_reducible first | refine NeedI.mk (fun h => h) ?_ | refine NeedI.mk (fun h => h.2) ?_ | refine NeedI.mk (fun h => h.1) ?_ | exact Done.mk | refine Both.mk (fun _ => ?_) (fun _ => ?_) | refine Both2.mk (fun _ => ?_) ?_ | refine Need.mk (by first | omega | with_reducible exact CEq.refl _) ?_)
    | ((with_reducible fail_if_success first | refine LoopVC.mk ?_ | refine Need.mk ?_ ?_ | refine CallVC.mk ?_ | refine LoopEnd.mk ?_ | refine Out.mk ?_ | show False | refine NeedI.mk ?_ ?_); conv => whnf)
  refine CallVC.mk' (fun _ => repair_ok K d S) (fun _ => .cons ((.many fun j hj => by (rcases (show j = 0 ∨ j = 1 by omega) with rfl | rfl <;> exact CEq.refl _))) .nil) ?_
  repeat' first
    | (with_reducible first | refine NeedI.mk (fun h => h) ?_ | refine NeedI.mk (fun h => h.2) ?_ | refine NeedI.mk (fun h => h.1) ?_ | exact Done.mk | refine Both.mk (fun _ => ?_) (fun _ => ?_) | refine Both2.mk (fun _ => ?_) ?_ | refine Need.mk (by first | omega | with_reducible exact CEq.refl _) ?_)
    | ((with_reducible fail_if_success first | refine LoopVC.mk ?_ | refine Need.mk ?_ ?_ | refine CallVC.mk ?_ | refine LoopEnd.mk ?_ | refine Out.mk ?_ | show False | refine NeedI.mk ?_ ?_); conv => whnf)
  have h2 := repair_len d
  refine CallVC.mk' (fun _ => run_ok K.k K.run d (repair d) (repair d).length S (by omega) repair_data) (fun _ => .cons ((.many fun j hj => by (rcases (show j = 0 ∨ j = 1 by omega) with rfl | rfl <;> exact CEq.refl _))) (.cons (.one (CEq.refl _)) (.cons (.one (CEq.refl _)) .nil))) ?_
  rw [run_all]
  repeat' first
    | (with_reducible first | refine NeedI.mk (fun h => h) ?_ | refine NeedI.mk (fun h => h.2) ?_ | refine NeedI.mk (fun h => h.1) ?_ | exact Done.mk | refine Both.mk (fun _ => ?_) (fun _ => ?_) | refine Both2.mk (fun _ => ?_) ?_ | refine Need.mk (by with_reducible exact Nat.le_of_eq (Nat.zero_add _)) ?_)
    | ((with_reducible refine Need.mk ?_ ?_); exact CEq.refl _)
    | ((with_reducible fail_if_success first | refine LoopVC.mk ?_ | refine Need.mk ?_ ?_ | refine CallVC.mk ?_ | refine LoopEnd.mk ?_ | refine Out.mk ?_ | show False | refine NeedI.mk ?_ ?_); conv => whnf)
end
end Lk.S12
namespace Lk.S12
open Go Lk Lk.S03
theorem Calm.small {d : Dsk} (h : Calm d) : Small d := h.r.small
theorem Calm.crash {d : Dsk} {keep : List Int} (h : Calm d) : d.crash keep = d := crash_calm h.r h.c
theorem recover_zs {d : Dsk} (h : d.read 0 = zs) : recover d = d := by unfold recover; rw [repair_zs h]; rfl
theorem recover_head {d : Dsk} {n : Nat} (h : Calm d) (h1 : 1 ≤ n) (h2 : n ≤ 16) (h0 : d.read 0 = headL n) :
    Calm (recover d) ∧ ∀ i, i < 35 → (recover d).read i = if i = 0 then zs else if i = 2 * n + 1 then d.read 1 else if i = 2 * n + 2 then d.read 2 else d.read i := by
  have hrep := repair_head h.usable h1 h2 h0
  have l1 := read_len (i := 1) h.r (by rw [h.n]; decide)
  have l2 := read_len (i := 2) h.r (by rw [h.n]; decide)
  have ho := rep_ok (n := n) (a := d.read 1) (b := d.read 2) h2 l1 l2
  have hlen : (halves (home n) (d.read 1) (d.read 2) ++ topL zs).length = 5 := rfl
  obtain ⟨a, b, c⟩ := runL_all (l := halves (home n) (d.read 1) (d.read 2) ++ topL zs) h.r (by rw [h.n]; exact ho) (by rw [h.c, hlen]; decide)
  unfold recover
  rw [hrep]
  refine ⟨⟨a, b.trans h.n, ?_⟩, fun i hi => by rw [c i (by rw [h.n]; exact hi), rep_read]⟩
  have e : halves (home n) (d.read 1) (d.read 2) ++ topL zs = (halves (home n) (d.read 1) (d.read 2) ++ topL zs).take 4 ++ [⟨true, ⟨0, []⟩⟩] := rfl
  rw [e]
  exact runL_calm (runL_all h.r (by rw [h.n]; exact ho.take) (by rw [h.c, List.length_take]; simp; omega)).1 rfl
/-- The pages as they were, but that page n may be a and b; nothing to repair. -/
structure Old (f r : Nat → List UInt8) (n : Nat) (a b : List UInt8) : Prop where
  z : r 0 = zs
  oth : ∀ q, 1 ≤ q → q ≤ 16 → q ≠ n → At r q (f (2 * q + 1)) (f (2 * q + 2))
  st : At r n (f (2 * n + 1)) (f (2 * n + 2)) ∨ At r n a b
theorem Inv.recover {f : Nat → List UInt8} {d : Dsk} {n : Nat} {a b : List UInt8} (h : Calm d) (h1 : 1 ≤ n) (h2 : n ≤ 16) (I : Inv f d.read n a b) : Calm (recover d) ∧ Old f (recover d).read n a b := by
  rcases I.st with ⟨h0, hs⟩ | ⟨h0, ha, hb⟩
  · rw [recover_zs h0]; exact ⟨h, h0, I.oth, hs⟩
  · obtain ⟨hc, hr⟩ := recover_head h h1 h2 h0
    refine ⟨hc, by rw [hr 0 (by omega), if_pos rfl], fun q q1 q2 qn => ?_, .inr ?_⟩
    · have := I.oth q q1 q2 qn
      unfold At at this ⊢
      rw [hr _ (by omega), hr _ (by omega), if_neg (by omega), if_neg (by omega), if_neg (by omega), if_neg (by omega), if_neg (by omega), if_neg (by omega)]
      exact this
    · unfold At
      rw [hr _ (by omega), hr _ (by omega), if_neg (by omega), if_pos rfl, if_neg (by omega), if_neg (by omega), if_pos rfl]
      exact ⟨ha, hb⟩
/-- What the statement asks of a disk behind a crash. -/
def oldP (d was : Dsk) (p : Nat) (data : List UInt8) : Prop :=
  d.secs.length = 35 ∧ d.cache = [] ∧ d.secs.getD 0 [] = was.secs.getD 0 [] ∧ ∀ q : Nat, 1 ≤ q → q ≤ 16 → (get d q).2 = 0 ∧ ((get d q).1 = was.secs.getD (2 * q + 1) [] ++ was.secs.getD (2 * q + 2) [] ∨ (q = p ∧ (get d q).1 = data))
theorem get_calm {d : Dsk} {q : Nat} (h : Calm d) (h1 : 1 ≤ q) (h2 : q ≤ 16) : get d q = (getS d q, 0) := if_pos ⟨h.usable, by unfold valid; omega⟩
theorem Old.p {d was : Dsk} {n : Nat} {data : List UInt8} (hc : Calm d) (hw : Calm was) (h1 : 1 ≤ n) (h2 : n ≤ 16) (hz : was.read 0 = zs) (h : Old was.read d.read n (data.take 16) (data.drop 16)) : oldP d was n data := by
  refine ⟨hc.n, hc.c, ?_, fun q q1 q2 => ?_⟩
  · rw [← read_calm hc.c, ← read_calm hw.c, h.z, hz]
  · rw [get_calm hc q1 q2]
    refine ⟨rfl, ?_⟩
    rw [← read_calm hw.c, ← read_calm hw.c]
    show getS d q = _ ∨ _ ∧ getS d q = _
    unfold getS
    by_cases e : q = n
    · subst e
      rcases h.st with x | x
      · left; rw [x.1, x.2]
      · right; refine ⟨rfl, ?_⟩; rw [x.1, x.2]; exact List.take_append_drop 16 data
    · left
      have x := h.oth q q1 q2 e
      rw [x.1, x.2]
end Lk.S12
namespace Lk.S12
open Go Lk Lk.C Lk.S03
def ad : List UInt8 := [48, 49, 50, 51, 52, 53, 54, 55, 56, 57, 97, 98, 99, 100, 101, 102, 48, 49, 50, 51, 52, 53, 54, 55, 56, 57, 65, 66, 67, 68, 69, 70]
def D35 : Dsk := ⟨List.replicate 35 zs, []⟩
theorem D35_new : newD 35 = D35 := by decide +kernel
theorem D35_newE : newE 35 = 0 := by decide +kernel
theorem D35_calm : Calm D35 := ⟨by decide +kernel, rfl, rfl⟩
def cut5 : Dsk := (run D35 (planL D35 3 ad) 5).sync
structure K12 (P : Program) (F : Nat → Nat) : Prop where
  j : KJ P F
  awake : law12_awake_k P F
section
variable {P : Program} {F : Nat → Nat}
set_option maxHeartbeats 8000000 in
set_option maxRecDepth 100000 in
theorem awake_ok (K : K12 P F) : FnOk P (F 96) [] [.one (.im (.bool true))] := by
  refine fnOk K.j.k.m K.awake ?_
  have S := D35_calm.small
  have h1 : planL D35 3 ad = plan 3 ad := by decide +kernel
  have h2 : planE D35 3 ad = 0 := by decide +kernel
  have h3 : get (commitD D35 3 ad) 3 = (ad, 0) := by decide +kernel
  have h4 : get (recover cut5) 3 = (ad, 0) := by decide +kernel
  have h5 : repair D35 = [] := by decide +kernel
  have hr1 : right (commitD D35 3 ad) := by decide +kernel
  have hr2 : right (run D35 (plan 3 ad) 5) := by decide +kernel
  have hr4 : right (recover cut5) := by decide +kernel
  have hc5 : cut5 = (run D35 (plan 3 ad) 5).sync := by rw [← h1]; rfl
  have hr3 : right cut5 := by rw [hc5]; exact hr2.sync
  repeat' first
    | (with_reducible first | refine NeedI.mk (fun h => h) ?_ | refine NeedI.mk (fun h => h.2) ?_ | refine NeedI.mk (fun h => h.1) ?_ | exact Done.mk | refine Both.mk (fun _ => ?_) (fun _ => ?_) | refine Both2.mk (fun _ => ?_) ?_ | refine Need.mk (by first | omega | with_reducible exact CEq.refl _ | (dsimp only; omega) | (dsimp only [rng]; omega) | (simp only [decide_eq_true_eq, decide_eq_false_iff_not, Bool.or_eq_true, Bool.and_eq_true, Bool.or_eq_false_iff, Int.toNat_natCast, addN_eq, cond_false, cond_true, rng] at *; omega) | exact ⟨rfl, rfl⟩) ?_)
    | ((with_reducible refine Need.mk ?_ ?_); exact CEq.refl _)
    | ((with_reducible fail_if_success first | refine LoopVC.mk ?_ | refine Need.mk ?_ ?_ | refine CallVC.mk ?_ | refine LoopEnd.mk ?_ | refine Out.mk ?_ | show False | refine NeedI.mk ?_ ?_); conv => whnf)
  refine CallVC.mk' (fun _ => new_ok K.j.k.m K.j.k.new 35 K.j.k.rep) (fun _ => .cons (.one (CEq.refl _)) .nil) ?_
  rw [D35_new, D35_newE]
  repeat' first
    | (with_reducible first | refine NeedI.mk (fun h => h) ?_ | refine NeedI.mk (fun h => h.2) ?_ | refine NeedI.mk (fun h => h.1) ?_ | exact Done.mk | refine Both.mk (fun _ => ?_) (fun _ => ?_) | refine Both2.mk (fun _ => ?_) ?_ | refine Need.mk (by first | omega | with_reducible exact CEq.refl _ | (dsimp only; omega) | (dsimp only [rng]; omega) | (simp only [decide_eq_true_eq, decide_eq_false_iff_not, Bool.or_eq_true, Bool.and_eq_true, Bool.or_eq_false_iff, Int.toNat_natCast, addN_eq, cond_false, cond_true, rng] at *; omega) | exact ⟨rfl, rfl⟩) ?_)
    | ((with_reducible refine Need.mk ?_ ?_); exact CEq.refl _)
    | ((with_reducible fail_if_success first | refine LoopVC.mk ?_ | refine Need.mk ?_ ?_ | refine CallVC.mk ?_ | refine LoopEnd.mk ?_ | refine Out.mk ?_ | show False | refine NeedI.mk ?_ ?_); conv => whnf)
  refine CallVC.mk' (fun _ => plan_ok K.j D35 3 ad S (by decide)) (fun _ => .cons ((.many fun j hj => by (rcases (show j = 0 ∨ j = 1 by omega) with rfl | rfl <;> exact CEq.refl _))) (.cons (.one (CEq.refl _)) (.cons (.one (CEq.refl _)) .nil))) ?_
  rw [h1, h2]
  repeat' first
    | (with_reducible first | refine NeedI.mk (fun h => h) ?_ | refine NeedI.mk (fun h => h.2) ?_ | refine NeedI.mk (fun h => h.1) ?_ | exact Done.mk | refine Both.mk (fun _ => ?_) (fun _ => ?_) | refine Both2.mk (fun _ => ?_) ?_ | refine Need.mk (by first | omega | with_reducible exact CEq.refl _ | (dsimp only; omega) | (dsimp only [rng]; omega) | (simp only [decide_eq_true_eq, decide_eq_false_iff_not, Bool.or_eq_true, Bool.and_eq_true, Bool.or_eq_false_iff, Int.toNat_natCast, addN_eq, cond_false, cond_true, rng] at *; omega) | exact ⟨rfl, rfl⟩) ?_)
    | ((with_reducible refine Need.mk ?_ ?_); exact CEq.refl _)
    | ((with_reducible fail_if_success first | refine LoopVC.mk ?_ | refine Need.mk ?_ ?_ | refine CallVC.mk ?_ | refine LoopEnd.mk ?_ | refine Out.mk ?_ | show False | refine NeedI.mk ?_ ?_); conv => whnf)
  refine CallVC.mk' (fun _ => commit_ok K.j D35 3 ad S (by decide)) (fun _ => .cons ((.many fun j hj => by (rcases (show j = 0 ∨ j = 1 by omega) with rfl | rfl <;> exact CEq.refl _))) (.cons (.one (CEq.refl _)) (.cons (.one (CEq.refl _)) .nil))) ?_
  rw [h2]
  generalize commitD D35 3 ad = c at *
  repeat' first
    | (with_reducible first | refine NeedI.mk (fun h => h) ?_ | refine NeedI.mk (fun h => h.2) ?_ | refine NeedI.mk (fun h => h.1) ?_ | exact Done.mk | refine Both.mk (fun _ => ?_) (fun _ => ?_) | refine Both2.mk (fun _ => ?_) ?_ | refine Need.mk (by first | omega | with_reducible exact CEq.refl _ | (dsimp only; omega) | (dsimp only [rng]; omega) | (simp only [decide_eq_true_eq, decide_eq_false_iff_not, Bool.or_eq_true, Bool.and_eq_true, Bool.or_eq_false_iff, Int.toNat_natCast, addN_eq, cond_false, cond_true, rng] at *; omega) | exact ⟨rfl, rfl⟩) ?_)
    | ((with_reducible refine Need.mk ?_ ?_); exact CEq.refl _)
    | ((with_reducible fail_if_success first | refine LoopVC.mk ?_ | refine Need.mk ?_ ?_ | refine CallVC.mk ?_ | refine LoopEnd.mk ?_ | refine Out.mk ?_ | show False | refine NeedI.mk ?_ ?_); conv => whnf)
  refine CallVC.mk' (fun _ => get_ok K.j c 3 hr1.small) (fun _ => .cons ((.many fun j hj => by (rcases (show j = 0 ∨ j = 1 by omega) with rfl | rfl <;> exact CEq.refl _))) (.cons (.one (CEq.refl _)) .nil)) ?_
  rw [h3]
  repeat' first
    | (with_reducible first | refine NeedI.mk (fun h => h) ?_ | refine NeedI.mk (fun h => h.2) ?_ | refine NeedI.mk (fun h => h.1) ?_ | exact Done.mk | refine Both.mk (fun _ => ?_) (fun _ => ?_) | refine Both2.mk (fun _ => ?_) ?_ | refine Need.mk (by first | omega | with_reducible exact CEq.refl _ | (dsimp only; omega) | (dsimp only [rng]; omega) | (simp only [decide_eq_true_eq, decide_eq_false_iff_not, Bool.or_eq_true, Bool.and_eq_true, Bool.or_eq_false_iff, Int.toNat_natCast, addN_eq, cond_false, cond_true, rng] at *; omega) | exact ⟨rfl, rfl⟩) ?_)
    | ((with_reducible refine Need.mk ?_ ?_); exact CEq.refl _)
    | ((with_reducible fail_if_success first | refine LoopVC.mk ?_ | refine Need.mk ?_ ?_ | refine CallVC.mk ?_ | refine LoopEnd.mk ?_ | refine Out.mk ?_ | show False | refine NeedI.mk ?_ ?_); conv => whnf)
  refine CallVC.mk' (fun _ => run_ok K.j.k K.j.run D35 (plan 3 ad) 5 S (by decide) (by decide +kernel)) (fun _ => .cons ((.many fun j hj => by (rcases (show j = 0 ∨ j = 1 by omega) with rfl | rfl <;> exact CEq.refl _))) (.cons (.one (CEq.refl _)) (.cons (.one (CEq.refl _)) .nil))) ?_
  generalize run D35 (plan 3 ad) 5 = e at *
  repeat' first
    | (with_reducible first | refine NeedI.mk (fun h => h) ?_ | refine NeedI.mk (fun h => h.2) ?_ | refine NeedI.mk (fun h => h.1) ?_ | exact Done.mk | refine Both.mk (fun _ => ?_) (fun _ => ?_) | refine Both2.mk (fun _ => ?_) ?_ | refine Need.mk (by first | omega | with_reducible exact CEq.refl _ | (dsimp only; omega) | (dsimp only [rng]; omega) | (simp only [decide_eq_true_eq, decide_eq_false_iff_not, Bool.or_eq_true, Bool.and_eq_true, Bool.or_eq_false_iff, Int.toNat_natCast, addN_eq, cond_false, cond_true, rng] at *; omega) | exact ⟨rfl, rfl⟩) ?_)
    | ((with_reducible refine Need.mk ?_ ?_); exact CEq.refl _)
    | ((with_reducible fail_if_success first | refine LoopVC.mk ?_ | refine Need.mk ?_ ?_ | refine CallVC.mk ?_ | refine LoopEnd.mk ?_ | refine Out.mk ?_ | show False | refine NeedI.mk ?_ ?_); conv => whnf)
  refine CallVC.mk' (fun _ => sync_ok K.j.k e hr2.small) (fun _ => .cons ((.many fun j hj => by (rcases (show j = 0 ∨ j = 1 by omega) with rfl | rfl <;> exact CEq.refl _))) .nil) ?_
  rw [← hc5]
  generalize cut5 = g at *
  repeat' first
    | (with_reducible first | refine NeedI.mk (fun h => h) ?_ | refine NeedI.mk (fun h => h.2) ?_ | refine NeedI.mk (fun h => h.1) ?_ | exact Done.mk | refine Both.mk (fun _ => ?_) (fun _ => ?_) | refine Both2.mk (fun _ => ?_) ?_ | refine Need.mk (by first | omega | with_reducible exact CEq.refl _ | (dsimp only; omega) | (dsimp only [rng]; omega) | (simp only [decide_eq_true_eq, decide_eq_false_iff_not, Bool.or_eq_true, Bool.and_eq_true, Bool.or_eq_false_iff, Int.toNat_natCast, addN_eq, cond_false, cond_true, rng] at *; omega) | exact ⟨rfl, rfl⟩) ?_)
    | ((with_reducible refine Need.mk ?_ ?_); exact CEq.refl _)
    | ((with_reducible fail_if_success first | refine LoopVC.mk ?_ | refine Need.mk ?_ ?_ | refine CallVC.mk ?_ | refine LoopEnd.mk ?_ | refine Out.mk ?_ | show False | refine NeedI.mk ?_ ?_); conv => whnf)
  refine CallVC.mk' (fun _ => recover_ok K.j g hr3.small) (fun _ => .cons ((.many fun j hj => by (rcases (show j = 0 ∨ j = 1 by omega) with rfl | rfl <;> exact CEq.refl _))) .nil) ?_
  generalize recover g = k at *
  repeat' first
    | (with_reducible first | refine NeedI.mk (fun h => h) ?_ | refine NeedI.mk (fun h => h.2) ?_ | refine NeedI.mk (fun h => h.1) ?_ | exact Done.mk | refine Both.mk (fun _ => ?_) (fun _ => ?_) | refine Both2.mk (fun _ => ?_) ?_ | refine Need.mk (by first | omega | with_reducible exact CEq.refl _ | (dsimp only; omega) | (dsimp only [rng]; omega) | (simp only [decide_eq_true_eq, decide_eq_false_iff_not, Bool.or_eq_true, Bool.and_eq_true, Bool.or_eq_false_iff, Int.toNat_natCast, addN_eq, cond_false, cond_true, rng] at *; omega) | exact ⟨rfl, rfl⟩) ?_)
    | ((with_reducible refine Need.mk ?_ ?_); exact CEq.refl _)
    | ((with_reducible fail_if_success first | refine LoopVC.mk ?_ | refine Need.mk ?_ ?_ | refine CallVC.mk ?_ | refine LoopEnd.mk ?_ | refine Out.mk ?_ | show False | refine NeedI.mk ?_ ?_); conv => whnf)
  refine CallVC.mk' (fun _ => get_ok K.j k 3 hr4.small) (fun _ => .cons ((.many fun j hj => by (rcases (show j = 0 ∨ j = 1 by omega) with rfl | rfl <;> exact CEq.refl _))) (.cons (.one (CEq.refl _)) .nil)) ?_
  rw [h4]
  repeat' first
    | (with_reducible first | refine NeedI.mk (fun h => h) ?_ | refine NeedI.mk (fun h => h.2) ?_ | refine NeedI.mk (fun h => h.1) ?_ | exact Done.mk | refine Both.mk (fun _ => ?_) (fun _ => ?_) | refine Both2.mk (fun _ => ?_) ?_ | refine Need.mk (by first | omega | with_reducible exact CEq.refl _ | (dsimp only; omega) | (dsimp only [rng]; omega) | (simp only [decide_eq_true_eq, decide_eq_false_iff_not, Bool.or_eq_true, Bool.and_eq_true, Bool.or_eq_false_iff, Int.toNat_natCast, addN_eq, cond_false, cond_true, rng] at *; omega) | exact ⟨rfl, rfl⟩) ?_)
    | ((with_reducible refine Need.mk ?_ ?_); exact CEq.refl _)
    | ((with_reducible fail_if_success first | refine LoopVC.mk ?_ | refine Need.mk ?_ ?_ | refine CallVC.mk ?_ | refine LoopEnd.mk ?_ | refine Out.mk ?_ | show False | refine NeedI.mk ?_ ?_); conv => whnf)
  refine CallVC.mk' (fun _ => repair_ok K.j D35 S) (fun _ => .cons ((.many fun j hj => by (rcases (show j = 0 ∨ j = 1 by omega) with rfl | rfl <;> exact CEq.refl _))) .nil) ?_
  rw [h5]
  repeat' first
    | (with_reducible first | refine NeedI.mk (fun h => h) ?_ | refine NeedI.mk (fun h => h.2) ?_ | refine NeedI.mk (fun h => h.1) ?_ | exact Done.mk | refine Both.mk (fun _ => ?_) (fun _ => ?_) | refine Both2.mk (fun _ => ?_) ?_ | refine Need.mk (by first | omega | with_reducible exact CEq.refl _ | (dsimp only; omega) | (dsimp only [rng]; omega) | (simp only [decide_eq_true_eq, decide_eq_false_iff_not, Bool.or_eq_true, Bool.and_eq_true, Bool.or_eq_false_iff, Int.toNat_natCast, addN_eq, cond_false, cond_true, rng] at *; omega) | exact ⟨rfl, rfl⟩) ?_)
    | ((with_reducible refine Need.mk ?_ ?_); exact CEq.refl _)
    | ((with_reducible fail_if_success first | refine LoopVC.mk ?_ | refine Need.mk ?_ ?_ | refine CallVC.mk ?_ | refine LoopEnd.mk ?_ | refine Out.mk ?_ | show False | refine NeedI.mk ?_ ?_); conv => whnf)
end
end Lk.S12
namespace Lk.S12
open Go Lk Lk.C Lk.S03
structure KR12 (P : Program) (F : Nat → Nat) : Prop where
  r : KRef P F
  may : ref12_May_k P F
  get : ref12_Get_k P F
  plan : ref12_Plan_k P F
  same : ref12_Same_k P F
  run : ref12_Run_k P F
  at_ : ref12_at_k P F
  filled : ref12_filled_k P F
section
variable {P : Program} {F : Nat → Nat}
set_option maxHeartbeats 8000000 in
set_option maxRecDepth 100000 in
theorem may_ok (R : KR12 P F) (d : Dsk) (W : EDsk.wf d) : FnOk P (F 100) [.many 2 (dskE d)] [.one (.im (.bool (decide (usable d))))] := by
  refine fnOk R.r.m R.may ?_
  repeat' first
    | (with_reducible first | refine NeedI.mk (fun h => h) ?_ | refine NeedI.mk (fun h => h.2) ?_ | refine NeedI.mk (fun h => h.1) ?_ | exact Done.mk | refine Both.mk (fun _ => ?_) (fun _ => ?_) | refine Both2.mk (fun _ => ?_) ?_ | refine Need.mk (by first | omega | with_reducible exact CEq.refl _) ?_)
    | ((with_reducible fail_if_success first | refine LoopVC.mk ?_ | refine Need.mk ?_ ?_ | refine CallVC.mk ?_ | refine LoopEnd.mk ?_ | refine Out.mk ?_ | show False | refine NeedI.mk ?_ ?_); conv => whnf)
  refine CallVC.mk' (fun _ => rright_ok R.r d W) (fun _ => .cons ((.many fun j hj => by (rcases (show j = 0 ∨ j = 1 by omega) with rfl | rfl <;> exact CEq.refl _))) .nil) ?_
  have := W.1
  repeat' first
    | (with_reducible first | refine NeedI.mk (fun h => h) ?_ | refine NeedI.mk (fun h => h.2) ?_ | refine NeedI.mk (fun h => h.1) ?_ | exact Done.mk | refine Both.mk (fun _ => ?_) (fun _ => ?_) | refine Both2.mk (fun _ => ?_) ?_ | refine Need.mk (by first | omega | with_reducible exact CEq.refl _) ?_)
    | ((with_reducible fail_if_success first | refine LoopVC.mk ?_ | refine Need.mk ?_ ?_ | refine CallVC.mk ?_ | refine LoopEnd.mk ?_ | refine Out.mk ?_ | show False | refine NeedI.mk ?_ ?_); conv => whnf)
  refine Need.mk (eB ?_) ?_
  · rw [Bool.eq_iff_iff]; simp only [Bool.and_eq_true, decide_eq_true_eq]; exact ⟨fun ⟨a, b⟩ => ⟨a, by omega⟩, fun ⟨a, b⟩ => ⟨a, by omega⟩⟩
  repeat' first
    | (with_reducible first | refine NeedI.mk (fun h => h) ?_ | refine NeedI.mk (fun h => h.2) ?_ | refine NeedI.mk (fun h => h.1) ?_ | exact Done.mk | refine Both.mk (fun _ => ?_) (fun _ => ?_) | refine Both2.mk (fun _ => ?_) ?_ | refine Need.mk (by with_reducible exact Nat.le_of_eq (Nat.zero_add _)) ?_)
    | ((with_reducible fail_if_success first | refine LoopVC.mk ?_ | refine Need.mk ?_ ?_ | refine CallVC.mk ?_ | refine LoopEnd.mk ?_ | refine Out.mk ?_ | show False | refine NeedI.mk ?_ ?_); conv => whnf)
set_option maxHeartbeats 8000000 in
set_option maxRecDepth 100000 in
theorem rget_ok (R : KR12 P F) (d : Dsk) (n : Nat) (hu : usable d) (h1 : 1 ≤ n) (h2 : n ≤ 16) : FnOk P (F 101) [.many 2 (dskE d), .one (.int .i64 n)] [.one (.im (.str (getS d n)))] := by
  refine fnOk R.r.m R.get ?_
  have S := hu.1.small
  have hn := hu.2
  repeat' first
    | (with_reducible first | refine NeedI.mk (fun h => h) ?_ | refine NeedI.mk (fun h => h.2) ?_ | refine NeedI.mk (fun h => h.1) ?_ | exact Done.mk | refine Both.mk (fun _ => ?_) (fun _ => ?_) | refine Both2.mk (fun _ => ?_) ?_ | refine Need.mk (by first | omega | with_reducible exact CEq.refl _ | (simp only [rng]; omega)) ?_)
    | ((with_reducible fail_if_success first | refine LoopVC.mk ?_ | refine Need.mk ?_ ?_ | refine CallVC.mk ?_ | refine LoopEnd.mk ?_ | refine Out.mk ?_ | show False | refine NeedI.mk ?_ ?_); conv => whnf)
  refine CallVC.mk' (fun _ => rread_ok R.r d (2 * n + 1) S (by omega)) (fun _ => .cons ((.many fun j hj => by (rcases (show j = 0 ∨ j = 1 by omega) with rfl | rfl <;> exact CEq.refl _))) (.cons (.one (eI (by push_cast; rfl))) .nil)) ?_
  repeat' first
    | (with_reducible first | refine NeedI.mk (fun h => h) ?_ | refine NeedI.mk (fun h => h.2) ?_ | refine NeedI.mk (fun h => h.1) ?_ | exact Done.mk | refine Both.mk (fun _ => ?_) (fun _ => ?_) | refine Both2.mk (fun _ => ?_) ?_ | refine Need.mk (by first | omega | with_reducible exact CEq.refl _ | (simp only [rng]; omega)) ?_)
    | ((with_reducible fail_if_success first | refine LoopVC.mk ?_ | refine Need.mk ?_ ?_ | refine CallVC.mk ?_ | refine LoopEnd.mk ?_ | refine Out.mk ?_ | show False | refine NeedI.mk ?_ ?_); conv => whnf)
  refine CallVC.mk' (fun _ => rread_ok R.r d (2 * n + 2) S (by omega)) (fun _ => .cons ((.many fun j hj => by (rcases (show j = 0 ∨ j = 1 by omega) with rfl | rfl <;> exact CEq.refl _))) (.cons (.one (eI (by push_cast; rfl))) .nil)) ?_
  have l1 := read_len (i := 2 * n + 1) hu.1 (by omega)
  have l2 := read_len (i := 2 * n + 2) hu.1 (by omega)
  repeat' first
    | (with_reducible first | refine NeedI.mk (fun h => h) ?_ | refine NeedI.mk (fun h => h.2) ?_ | refine NeedI.mk (fun h => h.1) ?_ | exact Done.mk | refine Both.mk (fun _ => ?_) (fun _ => ?_) | refine Both2.mk (fun _ => ?_) ?_ | refine Need.mk (by first | omega | with_reducible exact CEq.refl _ | (simp only [rng]; omega)) ?_)
    | ((with_reducible refine Need.mk ?_ ?_); exact CEq.refl _)
    | ((with_reducible fail_if_success first | refine LoopVC.mk ?_ | refine Need.mk ?_ ?_ | refine CallVC.mk ?_ | refine LoopEnd.mk ?_ | refine Out.mk ?_ | show False | refine NeedI.mk ?_ ?_); conv => whnf)
set_option maxHeartbeats 8000000 in
set_option maxRecDepth 100000 in
theorem rat_ok (R : KR12 P F) (n : Int) (s : List UInt8) : FnOk P (F 123) [.one (.int .i64 n), .one (.str s)] [.many 3 (fun j => .im (opE ⟨false, ⟨n, s⟩⟩ j))] := by
  refine fnOk R.r.m R.at_ ?_
  repeat' first
    | (with_reducible first | refine NeedI.mk (fun h => h) ?_ | refine NeedI.mk (fun h => h.2) ?_ | refine NeedI.mk (fun h => h.1) ?_ | exact Done.mk | refine Both.mk (fun _ => ?_) (fun _ => ?_) | refine Both2.mk (fun _ => ?_) ?_ | refine Need.mk (by first | omega | with_reducible exact CEq.refl _) ?_)
    | ((with_reducible refine Need.mk ?_ ?_); exact CEq.refl _)
    | ((with_reducible fail_if_success first | refine LoopVC.mk ?_ | refine Need.mk ?_ ?_ | refine CallVC.mk ?_ | refine LoopEnd.mk ?_ | refine Out.mk ?_ | show False | refine NeedI.mk ?_ ?_); conv => whnf)
theorem rep_snoc (i : Nat) : List.replicate i (0 : UInt8) ++ [0] = List.replicate (i + 1) 0 := by
  rw [List.replicate_succ']
set_option maxHeartbeats 8000000 in
set_option maxRecDepth 100000 in
theorem rfilled_ok (R : KR12 P F) (s : List UInt8) (h : s.length ≤ 16) : FnOk P (F 124) [.one (.str s)] [.one (.im (.str (s ++ List.replicate (16 - s.length) 0)))] := by
  refine fnOk R.r.m R.filled ?_
  repeat' first
    | (with_reducible first | refine NeedI.mk (fun h => h) ?_ | refine NeedI.mk (fun h => h.2) ?_ | refine NeedI.mk (fun h => h.1) ?_ | exact Done.mk | refine Both.mk (fun _ => ?_) (fun _ => ?_) | refine Both2.mk (fun _ => ?_) ?_ | refine Need.mk (by first | omega | with_reducible exact CEq.refl _) ?_)
    | ((with_reducible fail_if_success first | refine LoopVC.mk ?_ | refine Need.mk ?_ ?_ | refine CallVC.mk ?_ | refine LoopEnd.mk ?_ | refine Out.mk ?_ | show False | refine NeedI.mk ?_ ?_); conv => whnf)
  refine LoopVC.inv (fun i : Nat => s.length + i ≤ 16) (fun i => stL [(0, .c (.str (s ++ List.replicate i 0)))] []) (fun i => 16 - i) 0 h (Le.of ⟨cS (by simp), trivial⟩ trivial) ?_
  rintro Q hQ i hi
  have hlen : (s ++ List.replicate i (0 : UInt8)).length = s.length + i := by simp
  repeat' first
    | (with_reducible first | refine NeedI.mk (fun h => h) ?_ | refine NeedI.mk (fun h => h.2) ?_ | refine NeedI.mk (fun h => h.1) ?_ | exact Done.mk | refine Both.mk (fun _ => ?_) (fun _ => ?_) | refine Both2.mk (fun _ => ?_) ?_ | refine Need.mk (by first | omega | with_reducible exact CEq.refl _) ?_)
    | ((with_reducible fail_if_success first | refine LoopVC.mk ?_ | refine Need.mk ?_ ?_ | refine CallVC.mk ?_ | refine LoopEnd.mk ?_ | refine Out.mk ?_ | show False | refine NeedI.mk ?_ ?_); conv => whnf)
  · rename_i h3
    have h3 : ((s ++ List.replicate i (0 : UInt8)).length : Int) < 16 := of_decide_eq_true h3
    refine Need.mk (Nat.le_refl _) ?_
    repeat' first
      | (with_reducible first | refine NeedI.mk (fun h => h) ?_ | refine NeedI.mk (fun h => h.2) ?_ | refine NeedI.mk (fun h => h.1) ?_ | exact Done.mk | refine Both.mk (fun _ => ?_) (fun _ => ?_) | refine Both2.mk (fun _ => ?_) ?_ | refine Need.mk (by first | omega | with_reducible exact CEq.refl _ | (dsimp only; omega) | (dsimp only [rng]; omega) | (simp only [decide_eq_true_eq, decide_eq_false_iff_not, Bool.or_eq_true, Bool.and_eq_true, Bool.or_eq_false_iff, Int.toNat_natCast, addN_eq, cond_false, cond_true, rng] at *; omega) | exact ⟨rfl, rfl⟩) ?_)
      | ((with_reducible refine Need.mk ?_ ?_); exact CEq.refl _)
      | ((with_reducible fail_if_success first | refine LoopVC.mk ?_ | refine Need.mk ?_ ?_ | refine CallVC.mk ?_ | refine LoopEnd.mk ?_ | refine Out.mk ?_ | show False | refine NeedI.mk ?_ ?_); conv => whnf)
    refine Need.mk (fun k hk => by (obtain rfl : k = 0 := (by have hk : k < 1 := hk; omega)); exact trivial) ?_
    repeat' first
      | (with_reducible first | refine NeedI.mk (fun h => h) ?_ | refine NeedI.mk (fun h => h.2) ?_ | refine NeedI.mk (fun h => h.1) ?_ | exact Done.mk | refine Both.mk (fun _ => ?_) (fun _ => ?_) | refine Both2.mk (fun _ => ?_) ?_ | refine Need.mk (by first | omega | with_reducible exact CEq.refl _ | (dsimp only; omega) | (dsimp only [rng]; omega) | (simp only [decide_eq_true_eq, decide_eq_false_iff_not, Bool.or_eq_true, Bool.and_eq_true, Bool.or_eq_false_iff, Int.toNat_natCast, addN_eq, cond_false, cond_true, rng] at *; omega) | exact ⟨rfl, rfl⟩) ?_)
      | ((with_reducible refine Need.mk ?_ ?_); exact CEq.refl _)
      | ((with_reducible fail_if_success first | refine LoopVC.mk ?_ | refine Need.mk ?_ ?_ | refine CallVC.mk ?_ | refine LoopEnd.mk ?_ | refine Out.mk ?_ | show False | refine NeedI.mk ?_ ?_); conv => whnf)
    refine Need.mk (by show (s ++ List.replicate i (0 : UInt8)).length + 1 ≤ 1000000000000; omega) ?_
    repeat' first
      | (with_reducible first | refine NeedI.mk (fun h => h) ?_ | refine NeedI.mk (fun h => h.2) ?_ | refine NeedI.mk (fun h => h.1) ?_ | exact Done.mk | refine Both.mk (fun _ => ?_) (fun _ => ?_) | refine Both2.mk (fun _ => ?_) ?_ | refine Need.mk (by first | omega | with_reducible exact CEq.refl _ | (dsimp only; omega) | (dsimp only [rng]; omega) | (simp only [decide_eq_true_eq, decide_eq_false_iff_not, Bool.or_eq_true, Bool.and_eq_true, Bool.or_eq_false_iff, Int.toNat_natCast, addN_eq, cond_false, cond_true, rng] at *; omega) | exact ⟨rfl, rfl⟩) ?_)
      | ((with_reducible refine Need.mk ?_ ?_); exact CEq.refl _)
      | ((with_reducible fail_if_success first | refine LoopVC.mk ?_ | refine Need.mk ?_ ?_ | refine CallVC.mk ?_ | refine LoopEnd.mk ?_ | refine Out.mk ?_ | show False | refine NeedI.mk ?_ ?_); conv => whnf)
    refine LoopEnd.mk ⟨i + 1, by omega, by omega, Le.of ⟨cS ?_, trivial⟩ trivial⟩
    rw [← rep_snoc, ← List.append_assoc]; rfl
  · rename_i h3
    have h3 : ¬ ((s ++ List.replicate i (0 : UInt8)).length : Int) < 16 := of_decide_eq_false h3
    refine Out.mk (hQ _ _ ?_)
    obtain rfl : i = 16 - s.length := by omega
    repeat' first
      | (with_reducible first | refine NeedI.mk (fun h => h) ?_ | refine NeedI.mk (fun h => h.2) ?_ | refine NeedI.mk (fun h => h.1) ?_ | exact Done.mk | refine Both.mk (fun _ => ?_) (fun _ => ?_) | refine Both2.mk (fun _ => ?_) ?_ | refine Need.mk (by with_reducible exact CEq.refl _) ?_)
      | ((with_reducible fail_if_success first | refine LoopVC.mk ?_ | refine Need.mk ?_ ?_ | refine CallVC.mk ?_ | refine LoopEnd.mk ?_ | refine Out.mk ?_ | show False | refine NeedI.mk ?_ ?_); conv => whnf)
end
end Lk.S12
